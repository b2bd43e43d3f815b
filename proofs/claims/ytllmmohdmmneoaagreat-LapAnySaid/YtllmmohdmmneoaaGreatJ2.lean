/- The engine of this proof, part 2. -/
import Derived.Calls
import Derived.Orders
import Derived.Tactics
import Derived.KernelRfl
import Derived.Laws.BytesString
import Derived.ChangeSame
import Derived.ReadAgain
import Derived.RowKit3
import Derived.WideShapes
import Derived.Laws.StructEq
import Derived.ChangeKeysEq
import Derived.Lib.UnsafeStr
import Derived.Laws.IdiomStrings
import Derived.Test.YtllmmohdmmneoaaGreatJ1
namespace Go.Fo
section

structure Nw (w w':World) (o:Obj):Prop where
  heap:w'.heap=w.heap.push o
  os:w'.os=w.os
  out:w'.output=w.output
  tape:w'.tape=w.tape

theorem Nw.hp {X:Nat->Prop} {ρ:Nat->Hd} {m:Mem} {L:Nat->Option MObj} {w w':World} {arr:Obj} (hw:Nw w w' arr) (h:Hp X ρ m L w) {d:Nat} {hd:Hd} (hb:hd.blk=w.heap.size) {o:MObj}
  (hfr:∀k o,L k=some o->k≠d->o.has d=false) (ho:osat (setρ ρ d hd) m w' d o) (hfl:Xw o=true:=by rfl):Hp X (setρ ρ d hd) m (qQ [(d,some o)] L) w'/\Nx X m m w w':=by
 have hsz:w'.heap.size=w.heap.size+1:=by rw[hw.heap,Array.size_push]
 have hun:∀b,b<w.heap.size->w'.heap[b]? = w.heap[b]?:=fun b hb=>by rw[hw.heap,Array.getElem?_push_lt hb];rw[Array.getElem?_eq_getElem hb]
 refine ⟨?_,Mle.refl m,fun _ _=>rfl,fun b hX=>hun b (h.lt b hX),by omega,hw.os,hw.out,hw.tape⟩
 rw[qT]
 refine h.turn d (some o) (fun b=>b=w.heap.size) (fun k hk=>by simp[setρ,hk]) (.inr fun k o' hk hne=>hfr k o' hk hne) (fun b hlt _=>hun b hlt) (by omega) (fun b hlt e=>by omega) (fun k o' b _ hk hf e=>?_) (fun o' ho'=>?_)
 ·have:=xy h hk hf;omega
 ·simp only[Option.some.injEq] at ho';subst ho'
  refine ⟨ho,fun b hf=>?_⟩
  have hbs:b=w.heap.size:=by have:=hf.2;simp[setρ] at this;omega
  subst hbs
  refine ⟨?_,fun hX=>?_,fun k o' _ hk hf'=>?_⟩
  ·cases hm:m w.heap.size with
   | none=>rfl
   | some q=>have:=WG h hm;omega
  ·have:=h.lt _ hX;omega
  ·have:=xy h hk hf';omega

theorem setρ_ne (ρ:Nat->Hd) (d:Nat) (h:Hd) {k:Nat} (hk:k≠d):setρ ρ d h k=ρ k:=by simp[setρ,hk]
theorem setρ_eq (ρ:Nat->Hd) (d:Nat) (h:Hd):setρ ρ d h d=h:=by simp[setρ]

theorem CvL.setρ {ρ:Nat->Hd} {m:Mem} {d:Nat} {h:Hd} {l:List MV} {vs:List Value} (hl:CvL ρ m l vs) (hf:MV.hasL d l=false):CvL (setρ ρ d h) m l vs :=
 CvL.mono (Mle.refl m) l vs (fun k hk=>by refine setρ_ne ρ d h (fun e=>?_);subst e;rw[hf] at hk;cases hk) hl

theorem ya {P:Program} (T:TypeId) (cells:Array Value) (w:World):∃w',(newRow T cells).run P w=.ok ⟨w.heap.size,0,none⟩ w'/\Nw w w' (.cells cells T (0,0)) :=
 ⟨{ w with heap:=w.heap.push (.cells cells T (0,0)) },rfl,rfl,rfl,rfl,rfl⟩

theorem Wg {P:Program} {X:Nat->Prop} {ρ:Nat->Hd} {m:Mem} {L:Nat->Option MObj} {w:World} (h:Hp X ρ m L w) {d:Nat} (hfr:∀k o,L k=some o->k≠d->o.has d=false) {cs:List MV} (hd:MV.hasL d cs=false)
  {vs:Array Value} (hv:CvL ρ m cs vs.toList) (T:TypeId) (s:Sem Value) (hs:∀w',(newRow T vs).run P w=.ok ⟨w.heap.size,0,none⟩ w'->s.run P w=.ok (.pointer (some ⟨w.heap.size,0,none⟩)) w') :
  ja P X ρ m L w d (do pure (.value (← s))) (.p d 0) [(d,some (.cells cs))] true:=by
 obtain ⟨w',h1,h2⟩:=ya (P:=P) T vs w
 refine ⟨_,w',setρ ρ d ⟨w.heap.size,0,0,false,0⟩,?_,.inl ⟨.pointer (some ⟨w.heap.size,0,none⟩),rfl,by simp only[Cv,setρ_eq]⟩,?_⟩
 ·rw[wc,hs w' h1];rfl
 ·have ho:osat (setρ ρ d ⟨w.heap.size,0,0,false,0⟩) m w' d (.cells cs):=by
   refine ⟨by rw[setρ_eq],vs.toList,T,?_,hv.setρ hd⟩
   rw[setρ_eq,h2.heap];simp
  obtain ⟨g1,g2⟩:=h2.hp h (hd:=⟨w.heap.size,0,0,false,0⟩) rfl hfr ho
  exact ⟨g1,g2,fun k hk=>setρ_ne _ _ _ hk,fun e=>by cases e⟩

theorem Xa {P:Program} {X:Nat->Prop} {ρ:Nat->Hd} {m:Mem} {L:Nat->Option MObj} {w:World} (h:Hp X ρ m L w) {d:Nat} (hfr:∀k o,L k=some o->k≠d->o.has d=false)
  {vs:Array Value} (hv:CvL ρ m [.nilp,.nils] vs.toList) (T:TypeId) (s:Sem Value) (hs:∀w',(newRow T vs).run P w=.ok ⟨w.heap.size,0,none⟩ w'->s.run P w=.ok (.pointer (some ⟨w.heap.size,0,none⟩)) w') :
  ja P X ρ m L w d (do pure (.value (← s))) (.p d 0) [(d,some (.bld T none))] true:=by
 obtain ⟨w',h1,h2⟩:=ya (P:=P) T vs w
 have hvs:vs=(List.toArray [.pointer none,UL (setρ ρ d ⟨w.heap.size,0,0,false,0⟩) none]):=by
  obtain ⟨v,us,e1,c1,v2,us2,e2,c2,e3⟩:=hv
  simp only[CvL] at e3;simp only[Cv] at c1 c2;subst e3;subst e2;subst c1;subst c2
  exact Array.ext' e1
 refine ⟨_,w',setρ ρ d ⟨w.heap.size,0,0,false,0⟩,?_,.inl ⟨.pointer (some ⟨w.heap.size,0,none⟩),rfl,by simp only[Cv,setρ_eq]⟩,?_⟩
 ·rw[wc,hs w' h1];rfl
 ·have ho:osat (setρ ρ d ⟨w.heap.size,0,0,false,0⟩) m w' d (.bld T none):=by
   refine ⟨by rw[setρ_eq],.pointer none,?_,.inl rfl⟩
   rw[<-hvs,setρ_eq,h2.heap];simp
  obtain ⟨g1,g2⟩:=h2.hp h (hd:=⟨w.heap.size,0,0,false,0⟩) rfl hfr ho
  exact ⟨g1,g2,fun k hk=>setρ_ne _ _ _ hk,fun e=>by cases e⟩

theorem vp {P:Program} {X:Nat->Prop} {ρ:Nat->Hd} {m:Mem} {L:Nat->Option MObj} {w w':World} (h:Hp X ρ m L w) {d:Nat} (hfr:∀k o,L k=some o->k≠d->o.has d=false) {k:Kd} {xs:List k.T}
  {vs:List Value} {T:TypeId} {cap:Nat} (hw:Nw w w' (.cells vs.toArray T (0,0))) (hcap:xs.length<=cap) (hlen:vs.length=cap*k.n) (hel:∀(i:Nat) (hi:i<xs.length),k.R m xs[i] ((vs.drop (i*k.n)).take k.n))
  (s:Sem Next) (hs:s.run P w=.ok (.value (.slice (some ⟨w.heap.size,0,none⟩) xs.length cap)) w') :
  ja P X ρ m L w d s (.sl d) [(d,some (.rows k xs))] true:=by
 refine ⟨_,w',setρ ρ d ⟨w.heap.size,xs.length,cap,false,k.n⟩,hs,.inl ⟨_,rfl,by simp only[Cv,setρ_eq];rfl⟩,?_⟩
 have ho:osat (setρ ρ d ⟨w.heap.size,xs.length,cap,false,k.n⟩) m w' d (.rows k xs):=by
  refine ⟨by rw[setρ_eq],by rw[setρ_eq],.inr ⟨by rw[setρ_eq],by rw[setρ_eq];exact hcap,vs,T,?_,by rw[setρ_eq];exact hlen,hel⟩⟩
  rw[setρ_eq,hw.heap];simp
 obtain ⟨g1,g2⟩:=hw.hp h (hd:=⟨w.heap.size,xs.length,cap,false,k.n⟩) rfl hfr ho
 exact ⟨g1,g2,fun k hk=>setρ_ne _ _ _ hk,fun e=>by cases e⟩

theorem Jg {P:Program} {X:Nat->Prop} {ρ:Nat->Hd} {m:Mem} {L:Nat->Option MObj} {w w':World} (h:Hp X ρ m L w) {d:Nat} (hfr:∀k o,L k=some o->k≠d->o.has d=false) {k:Kd} {xs:List k.T}
  {vs:List Value} {e:TypeId} {cap:Nat} (hw:Nw w w' (.cells vs.toArray e (0,0))) (hcap:xs.length<=cap) (hlen:vs.length=cap*k.n) (hel:∀(i:Nat) (hi:i<xs.length),k.R m xs[i] ((vs.drop (i*k.n)).take k.n))
  (s:Sem Next) (hs:s.run P w=.ok (.value (.slice (some ⟨w.heap.size,0,none⟩) xs.length cap)) w') :
  ja P X ρ m L w d s (.sl d) [(d,some (.brw e k xs))] true:=by
 refine ⟨_,w',setρ ρ d ⟨w.heap.size,xs.length,cap,false,k.n⟩,hs,.inl ⟨_,rfl,by simp only[Cv,setρ_eq];rfl⟩,?_⟩
 have ho:osat (setρ ρ d ⟨w.heap.size,xs.length,cap,false,k.n⟩) m w' d (.brw e k xs):=by
  refine ⟨by rw[setρ_eq],by rw[setρ_eq],.inr ⟨by rw[setρ_eq],by rw[setρ_eq];exact hcap,vs,?_,by rw[setρ_eq];exact hlen,hel⟩⟩
  rw[setρ_eq,hw.heap];simp
 obtain ⟨g1,g2⟩:=hw.hp h (hd:=⟨w.heap.size,xs.length,cap,false,k.n⟩) rfl hfr ho
 exact ⟨g1,g2,fun k hk=>setρ_ne _ _ _ hk,fun e=>by cases e⟩

theorem QP {m:Mem} {k:Kd}:∀{xs:List k.T} {css:List (List Value)},xs.length=css.length->(∀(i:Nat) (h1:i<xs.length) (h2:i<css.length),k.R m xs[i] css[i])->∀(rest:List Value),
  css.flatten.length=xs.length*k.n/\∀(i:Nat) (hi:i<xs.length),k.R m xs[i] (((css.flatten++rest).drop (i*k.n)).take k.n)
 | [],[],_,_,_=>⟨by simp,fun i hi=>by simp at hi⟩
 | [],_::_,h,_,_=>by simp at h
 | _::_,[],h,_,_=>by simp at h
 | x::xs,c::css,h,hr,rest=>by
  have h0:=hr 0 (by simp) (by simp)
  simp only[List.getElem_cons_zero] at h0
  have hc:=Kd.R.len _ _ _ h0
  obtain ⟨g1,g2⟩:=QP (xs:=xs) (css:=css) (by simpa using h) (fun i h1 h2=>by have:=hr (i+1) (by simpa using h1) (by simpa using h2);simpa using this) rest
  refine ⟨?_,fun i hi=>?_⟩
  ·simp only[List.flatten_cons,List.length_append,List.length_cons,g1,hc,Nat.add_mul,Nat.one_mul];omega
  ·cases i with
   | zero =>
    simp only[List.getElem_cons_zero,Nat.zero_mul,List.drop_zero,List.flatten_cons,List.append_assoc]
    rw[List.take_append_of_le_length (by omega),List.take_of_length_le (by omega)];exact h0
   | succ i =>
    have hi':i<xs.length:=by simpa using hi
    have:=g2 i hi'
    simp only[List.getElem_cons_succ,List.flatten_cons,List.append_assoc]
    rw[List.drop_append,List.drop_of_length_le (by rw[hc,Nat.add_mul,Nat.one_mul];omega),List.nil_append,hc,show (i+1)*k.n-k.n=i*k.n by rw[Nat.add_mul,Nat.one_mul];omega]
    exact this

theorem vO {m:Mem} {k:Kd} {x:k.T} {cs:List Value} (h:k.R m x cs) (n:Nat):∀(i:Nat) (_:i<n),k.R m x ((((List.replicate n cs).flatten).drop (i*k.n)).take k.n):=by
 intro i hi
 have:=(QP (m:=m) (k:=k) (xs:=List.replicate n x) (css:=List.replicate n cs) (by simp) (fun i h1 h2=>by simpa using h) []).2 i (by simpa using hi)
 simpa using this
end
section

def Kd.dfc:Kd->List Value
  | .int k=>[.int k 0]
  | .bool=>[.bool false]
  | .str=>[.string ⟨#[]⟩]
  | .slice _=>[.slice none 0 0]
  | .pair a b=>a.dfc++b.dfc
  | .unit=>[]
  | .ptr=>[.pointer none]
  | .hdr=>[.slice none 0 0]
theorem QZ (m:Mem):∀k:Kd,k.R m k.df k.dfc
 | .int _=>rfl
 | .bool=>rfl
 | .str=>rfl
 | .slice _=>⟨_,rfl,.inl ⟨_,rfl,rfl⟩⟩
 | .pair a b=>⟨_,_,rfl,QZ m a,QZ m b⟩
 | .unit=>rfl
 | .ptr=>rfl
 | .hdr=>rfl

theorem yE (zero:Array Value) (_hz:1<=zero.size):∀c:Nat,((Array.range (c*zero.size)).map (fun i=>zero[i%zero.size]!)).toList=(List.replicate c zero.toList).flatten:=by
 intro c
 simp only[Array.toList_map,Array.toList_range]
 induction c with
 | zero=>simp
 | succ c ih =>
  rw[Nat.add_mul,Nat.one_mul,List.range_add,List.map_append,ih,List.replicate_succ',List.flatten_append,List.flatten_singleton,List.map_map]
  congr 1
  apply List.ext_getElem
  ·simp
  ·intro i h1 h2
   simp only[List.length_map,List.length_range] at h1
   simp only[List.getElem_map,List.getElem_range,Function.comp_apply]
   rw[Nat.add_mod,Nat.mul_mod_left,Nat.zero_add,Nat.mod_mod,Nat.mod_eq_of_lt h1]
   simp[h1]

theorem Ki {ρ:Nat->Hd} {m:Mem} {k:Kd}:∀{ps:List (Nat×MV)} {n:Nat} {xs:List k.T},Zp k n ps=some xs->∀{vs:List (Nat×Value)},vs.length=ps.length->(∀(i:Nat) q v,ps[i]? = some q->vs[i]? = some v->q.1=v.1/\Cv ρ m q.2 v.2) →
  xs.length=ps.length/\(∀(i:Nat) v,vs[i]? = some v->v.1=n+i/\v.2.cells.size=k.n)/\∀(i:Nat) (h1:i<xs.length) (h2:i<(vs.map fun v=>v.2.cells.toList).length),k.R m xs[i] ((vs.map fun v=>v.2.cells.toList)[i])
 | [],n,xs,h,vs,hl,hp=>by
  simp only[Zp,Option.some.injEq] at h;subst h
  have:vs=[]:=List.eq_nil_of_length_eq_zero hl
  subst this
  exact ⟨rfl,fun i v hv=>by simp at hv,fun i h1=>by simp at h1⟩
 | (i0,x)::l,n,xs,h,vs,hl,hp=>by
  cases vs with
  | nil=>simp at hl
  | cons q vs =>
   obtain ⟨i',v⟩:=q
   obtain ⟨hi,hv⟩:=hp 0 (i0,x) (i',v) rfl rfl
   simp only at hi hv;subst hi
   unfold Zp at h
   split at h
   ·rename_i hg
    simp only[Bool.and_eq_true,beq_iff_eq] at hg
    obtain ⟨⟨rfl,hn⟩,hs⟩:=hg
    split at h
    ·rename_i y ys hy hys
     simp only[Option.some.injEq] at h;subst h
     have hcv:=xN hs hv
     have hcl:=CvL.length hcv
     obtain ⟨_,g2⟩:=QO hcv _ y 0 _ hy (QZ m k)
     have hdl:=Kd.R.len _ _ _ (QZ m k)
     rw[List.take_zero,List.nil_append,List.drop_of_length_le (by omega),List.append_nil] at g2
     obtain ⟨p1,p2,p3⟩:=Ki hys (vs:=vs) (by simpa using hl) (fun j q w hq hw=>hp (j+1) q w (by simpa using hq) (by simpa using hw))
     refine ⟨by simp[p1],fun j w hw=>?_,fun j h1 h2=>?_⟩
     ·cases j with
      | zero=>simp at hw;subst hw;exact ⟨rfl,by rw[<-Array.length_toList,hcl,hn]⟩
      | succ j =>
       have:=p2 j w (by simpa using hw)
       exact ⟨by omega,this.2⟩
     ·cases j with
      | zero=>simpa using g2
      | succ j =>
       have h3:j<(vs.map fun v=>v.2.cells.toList).length:=by simpa using h2
       have:=p3 j (by simpa using h1) h3
       simpa using this
    ·cases h
   ·cases h

theorem WI (sz:Nat):∀(ps:List (Nat×Value)) (n:Nat) (cs:List Value),(∀(i:Nat) v,ps[i]? = some v->v.1=n+i/\v.2.cells.size=sz)->(n+ps.length)*sz<=cs.length →
  Instr.fill (fun i=>some (i*sz,sz)) cs.toArray ps=some (cs.take (n*sz)++((ps.map fun v=>v.2.cells.toList).flatten++cs.drop ((n+ps.length)*sz))).toArray
 | [],n,cs,_,_=>by simp[Instr.fill]
 | (i,v)::ps,n,cs,h,hl=>by
  obtain ⟨h1,h2⟩:=h 0 (i,v) rfl
  simp only[Nat.add_zero] at h1 h2;subst h1
  have hle:(i+1)*sz<=(i+(ps.length+1))*sz:=Nat.mul_le_mul_right _ (by omega)
  simp only[List.length_cons] at hl
  rw[Nat.add_mul,Nat.one_mul] at hle
  unfold Instr.fill
  simp only
  rw[if_neg (by simp[h2];omega)]
  have hfold:(v.cells.zipIdx.foldl (fun cs (x:Value×Nat)=>cs.setIfInBounds (i*sz+x.2) x.1) cs.toArray)=(cs.take (i*sz)++(v.cells.toList++cs.drop (i*sz+sz))).toArray:=by
   apply Array.ext'
   rw[<-Array.foldl_toList,Array.toList_zipIdx]
   have:=ZQ v.cells.toList cs.toArray (i*sz) 0 (by simp[h2];omega)
   simp only[Nat.add_zero] at this
   rw[show v.cells.toList.length=sz by simpa using h2] at this
   exact this
  rw[show (v.cells.zipIdx.foldl (fun cs (c,j)=>cs.setIfInBounds (i*sz+j) c) cs.toArray)=_ from hfold]
  have hcl:(cs.take (i*sz)++(v.cells.toList++cs.drop (i*sz+sz))).length=cs.length:=by simp[h2];omega
  rw[WI sz ps (i+1) _ (fun j w hw=>by
   obtain ⟨a,b⟩:=h (j+1) w (by simpa using hw);exact ⟨by omega,b⟩) (by rw[hcl,show i+1+ps.length=i+(ps.length+1) by omega];exact hl)]
  congr 2
  have e1:(cs.take (i*sz)++(v.cells.toList++cs.drop (i*sz+sz))).take ((i+1)*sz)=cs.take (i*sz)++v.cells.toList:=by
   have hv:v.cells.toList.length=sz:=by simpa using h2
   have hlt:(cs.take (i*sz)).length=i*sz:=by rw[List.length_take];omega
   rw[Nat.add_mul,Nat.one_mul,List.take_append,List.take_of_length_le (l:=cs.take (i*sz)) (by omega),hlt,Nat.add_sub_cancel_left,List.take_append_of_le_length (l₁:=v.cells.toList) (by omega),List.take_of_length_le (l:=v.cells.toList) (by omega)]
  have e2:(cs.take (i*sz)++(v.cells.toList++cs.drop (i*sz+sz))).drop ((i+1+ps.length)*sz)=cs.drop ((i+(ps.length+1))*sz):=by
   have hv:v.cells.toList.length=sz:=by simpa using h2
   have hge:(i+1)*sz<=(i+1+ps.length)*sz:=Nat.mul_le_mul_right _ (by omega)
   rw[Nat.add_mul,Nat.one_mul] at hge
   have hlt:(cs.take (i*sz)).length=i*sz:=by simp;omega
   rw[List.drop_append,List.drop_of_length_le (by omega),List.nil_append,List.drop_append,List.drop_of_length_le (by rw[hlt,hv];omega),List.nil_append,List.drop_drop,hlt,hv]
   congr 1
   rw[show i+(ps.length+1)=i+1+ps.length by omega];omega
  rw[e1,e2]
  simp

theorem ZV {P:Program} {X:Nat->Prop} {ρ:Nat->Hd} {m:Mem} {L:Nat->Option MObj} {w:World} (h:Hp X ρ m L w) {T:Nat} {i:TI} (ht:TOK P T i) {k:Kd} (hk:i.ek=some k) {d:Nat} (hfr:∀k o,L k=some o->k≠d->o.has d=false)
  {ps:List (Nat×MV)} {xs:List k.T} (hx:Zp k 0 ps=some xs) {vs:List (Nat×Value)} (hl:vs.length=ps.length) (hp:∀(j:Nat) q v,ps[j]? = some q->vs[j]? = some v->q.1=v.1/\Cv ρ m q.2 v.2) {len:Nat} (hlen:len=ps.length) (hb:len*i.esz<=16777216) (h1:1<=i.esz) :
  ja P X ρ m L w d (do pure (.value (← Instr.buildSlice T len vs.toArray))) (.sl d) [(d,some (.rows k xs))] true:=by
 obtain ⟨hslc,hkn,je,z,hje,_,hz,hzr⟩:=ht.ek k hk
 obtain ⟨hund,hsz⟩:=ht.slc hslc
 obtain ⟨j',hj',hjs⟩:=zW hsz
 rw[hje] at hj';cases hj'
 have hzl:z.cells.size=i.esz:=by
  have:=Kd.R.len _ _ _ (hzr m);rw[<-hkn,<-this];simp
 obtain ⟨g1,g2,g3⟩:=Ki hx hl hp
 have hcss:xs.length=(vs.map fun v=>v.2.cells.toList).length:=by rw[g1,List.length_map,hl]
 obtain ⟨r1,r2⟩:=QP hcss g3 []
 have hvl:vs.length=len:=by rw[hl,hlen]
 obtain ⟨w',n1,n2⟩:=ya (P:=P) i.elem ((vs.map fun v=>v.2.cells.toList).flatten).toArray w
 have hrun:(Instr.buildSlice T len vs.toArray).run P w=.ok (.slice (some ⟨w.heap.size,0,none⟩) len len) w':=by
  unfold Instr.buildSlice
  rw[wc,wm hund];simp only
  rw[wc,wZ hje,hjs];simp only
  rw[if_neg (by simp;omega)]
  have hfill:∀cs:List Value,cs.length=len*i.esz->Instr.fill (fun q=>some (q*i.esz,i.esz)) cs.toArray vs=some ((vs.map fun v=>v.2.cells.toList).flatten).toArray:=by
   intro cs hcs
   have:=WI i.esz vs 0 cs (fun j v hv=>by have:=g2 j v hv;exact ⟨this.1,by rw[this.2,hkn]⟩) (by rw[hcs,Nat.zero_add,hvl];exact Nat.le_refl _)
   rw[this,Nat.zero_mul,List.take_zero,List.nil_append,List.drop_of_length_le (by rw[hcs,Nat.zero_add,hvl];exact Nat.le_refl _),List.append_nil]
  split
  ·rename_i h0
   rw[wc,zZ];simp only
   have h0':len=0:=by
    rcases Nat.mul_eq_zero.1 h0 with h|h
    ·exact h
    ·omega
   have:=hfill [] (by rw[h0'];simp)
   rw[h0']
   have hr0:Array.range 0=#[]:=rfl
   rw[Nat.zero_mul,hr0,Array.map_empty,this];simp only
   rw[wc,n1];rfl
  ·rw[wc,qb hje hz];simp only
   rw[wc,zZ];simp only
   have:=hfill ((Array.range (len*i.esz)).map (fun q=>z.cells[q%z.cells.size]!)).toList (by simp)
   rw[Array.toArray_toList] at this
   rw[this];simp only
   rw[wc,n1];rfl
 refine vp h hfr n2 (cap:=len) (by rw[g1];omega) ?_ (by simpa using r2) _ ?_
 ·rw[r1,g1,hlen]
 ·rw[wc,hrun,g1,<-hlen];rfl

theorem UX {ρ:Nat->Hd} {m:Mem} {sz:Nat}:∀{ps:List (Nat×MV)} {n:Nat} {cs:List MV},hdM sz n ps=some cs->∀{vs:List (Nat×Value)},vs.length=ps.length->(∀(i:Nat) q v,ps[i]? = some q->vs[i]? = some v->q.1=v.1/\Cv ρ m q.2 v.2) →
  (∀(i:Nat) v,vs[i]? = some v->v.1=n+i/\v.2.cells.size=sz)/\CvL ρ m cs (vs.map fun v=>v.2.cells.toList).flatten
 | [],n,cs,h,vs,hl,_=>by
  simp only[hdM,Option.some.injEq] at h;subst h
  have:vs=[]:=List.eq_nil_of_length_eq_zero hl
  subst this
  exact ⟨fun i v hv=>by simp at hv,rfl⟩
 | (i0,x)::l,n,cs,h,vs,hl,hp=>by
  cases vs with
  | nil=>simp at hl
  | cons q vs =>
   obtain ⟨i',v⟩:=q
   obtain ⟨hi,hv⟩:=hp 0 (i0,x) (i',v) rfl rfl
   simp only at hi hv;subst hi
   unfold hdM at h
   split at h
   ·rename_i hg
    simp only[Bool.and_eq_true,beq_iff_eq] at hg
    obtain ⟨⟨rfl,hn⟩,hs⟩:=hg
    split at h
    ·rename_i r hr
     simp only[Option.some.injEq] at h;subst h
     have hcv:=xN hs hv
     have hcl:=CvL.length hcv
     obtain ⟨p1,p2⟩:=UX hr (vs:=vs) (by simpa using hl) (fun j q w hq hw=>hp (j+1) q w (by simpa using hq) (by simpa using hw))
     refine ⟨fun j w hw=>?_,?_⟩
     ·cases j with
      | zero=>simp at hw;subst hw;exact ⟨rfl,by rw[<-Array.length_toList,hcl,hn]⟩
      | succ j =>
       have:=p1 j w (by simpa using hw)
       exact ⟨by omega,this.2⟩
     ·simp only[List.map_cons,List.flatten_cons]
      exact hcv.append p2
    ·cases h
   ·cases h

theorem Jn {P:Program} {X:Nat->Prop} {ρ:Nat->Hd} {m:Mem} {L:Nat->Option MObj} {w:World} (h:Hp X ρ m L w) {T:Nat} {i ie:TI} (ht:TOK P T i) (hslc:i.slc=true) (hte:TOK P i.elem ie) {d:Nat} (hfr:∀k o,L k=some o->k≠d->o.has d=false)
  {ps:List (Nat×MV)} {cs:List MV} (hx:hdM i.esz 0 ps=some cs) (hd:MV.hasL d cs=false) {vs:List (Nat×Value)} (hl:vs.length=ps.length) (hp:∀(j:Nat) q v,ps[j]? = some q->vs[j]? = some v->q.1=v.1/\Cv ρ m q.2 v.2) {len:Nat} (hlen:len=ps.length) (hb:len*i.esz<=16777216) (h1:1<=i.esz) :
  ja P X ρ m L w d (do pure (.value (← Instr.buildSlice T len vs.toArray))) (.hd d len) [(d,some (.cells cs))] true:=by
 obtain ⟨hund,hsz⟩:=ht.slc hslc
 obtain ⟨je,hje,hjs⟩:=zW hsz
 obtain ⟨je',z,hj',_,_,hz,_⟩:=hte.info
 rw[hje] at hj';cases hj'
 obtain ⟨g2,g3⟩:=UX hx hl hp
 have hvl:vs.length=len:=by rw[hl,hlen]
 obtain ⟨w',n1,n2⟩:=ya (P:=P) i.elem ((vs.map fun v=>v.2.cells.toList).flatten).toArray w
 have hrun:(Instr.buildSlice T len vs.toArray).run P w=.ok (.slice (some ⟨w.heap.size,0,none⟩) len len) w':=by
  unfold Instr.buildSlice
  rw[wc,wm hund];simp only
  rw[wc,wZ hje,hjs];simp only
  rw[if_neg (by simp;omega)]
  have hfill:∀cs:List Value,cs.length=len*i.esz->Instr.fill (fun q=>some (q*i.esz,i.esz)) cs.toArray vs=some ((vs.map fun v=>v.2.cells.toList).flatten).toArray:=by
   intro cs hcs
   have:=WI i.esz vs 0 cs g2 (by rw[hcs,Nat.zero_add,hvl];exact Nat.le_refl _)
   rw[this,Nat.zero_mul,List.take_zero,List.nil_append,List.drop_of_length_le (by rw[hcs,Nat.zero_add,hvl];exact Nat.le_refl _),List.append_nil]
  split
  ·rename_i h0
   rw[wc,zZ];simp only
   have h0':len=0:=by
    rcases Nat.mul_eq_zero.1 h0 with h|h
    ·exact h
    ·omega
   have:=hfill [] (by rw[h0'];simp)
   rw[h0']
   have hr0:Array.range 0=#[]:=rfl
   rw[Nat.zero_mul,hr0,Array.map_empty,this];simp only
   rw[wc,n1];rfl
  ·rw[wc,qb hje hz];simp only
   rw[wc,zZ];simp only
   have:=hfill ((Array.range (len*i.esz)).map (fun q=>z.cells[q%z.cells.size]!)).toList (by simp)
   rw[Array.toArray_toList] at this
   rw[this];simp only
   rw[wc,n1];rfl
 refine ⟨_,w',setρ ρ d ⟨w.heap.size,0,0,false,0⟩,?_,.inl ⟨.slice (some ⟨w.heap.size,0,none⟩) len len,rfl,by simp only[Cv,setρ_eq]⟩,?_⟩
 ·rw[wc,hrun];rfl
 ·have ho:osat (setρ ρ d ⟨w.heap.size,0,0,false,0⟩) m w' d (.cells cs):=by
   refine ⟨by rw[setρ_eq],_,i.elem,?_,g3.setρ hd⟩
   rw[setρ_eq,n2.heap];simp
  obtain ⟨q1,q2⟩:=n2.hp h (hd:=⟨w.heap.size,0,0,false,0⟩) rfl hfr ho
  exact ⟨q1,q2,fun k hk=>setρ_ne _ _ _ hk,fun e=>by cases e⟩

theorem vR {P:Program} {m:Mem} (w:World) {T:Nat} {i:TI} (ht:TOK P T i) {k:Kd} (hk:i.ek=some k)
  {n c:Int} (h0:0<=n) (hnc:n<=c) (hc:c*(i.eb:Int)<=140737488355328) (hb:1<=i.eb) (h1:1<=i.esz) (kn kc:IntKind) :
  ∃je z w',P.info? i.elem=some je/\je.zero=some z/\k.R m k.df z.cells.toList/\z.cells.size=i.esz/\k.n=i.esz/\(Instr.makeSlice T (.int kn n) (.int kc c)).run P w=.ok (.slice (some ⟨w.heap.size,0,none⟩) n.toNat c.toNat) w'/\Nw w w' (.cells (((List.replicate c.toNat z.cells.toList).flatten).toArray) i.elem (0,0)):=by
 obtain ⟨hslc,hkn,je,z,hje,hjb,hz,hzr⟩:=ht.ek k hk
 obtain ⟨hund,hsz⟩:=ht.slc hslc
 obtain ⟨j',hj',hjs⟩:=zW hsz
 rw[hje] at hj';cases hj'
 have hzl:z.cells.size=i.esz:=by
  have:=Kd.R.len _ _ _ (hzr m);rw[<-hkn,<-this];simp
 have hcb:c<=c*(i.eb:Int):=by
  have:c*1<=c*(i.eb:Int):=Int.mul_le_mul_of_nonneg_left (by omega) (by omega)
  omega
 have hw1:IntKind.i64.wrap n=n:=by
  have e1:IntKind.i64.bits=64:=rfl
  have e2:IntKind.i64.signed=true:=rfl
  unfold IntKind.wrap
  simp only[e1,e2,Bool.true_and,decide_eq_true_eq]
  omega
 have hw2:IntKind.i64.wrap c=c:=by
  have e1:IntKind.i64.bits=64:=rfl
  have e2:IntKind.i64.signed=true:=rfl
  unfold IntKind.wrap
  simp only[e1,e2,Bool.true_and,decide_eq_true_eq]
  omega
 obtain ⟨w',n1,n2⟩:=ya (P:=P) i.elem (((List.replicate c.toNat z.cells.toList).flatten).toArray) w
 have hrun:(Instr.makeSlice T (.int kn n) (.int kc c)).run P w=.ok (.slice (some ⟨w.heap.size,0,none⟩) n.toNat c.toNat) w':=by
  unfold Instr.makeSlice
  rw[wc,wm hund];simp only
  rw[wc,show (asInt (.int kn n)).run P w=.ok n w from rfl];simp only
  rw[wc,show (asInt (.int kc c)).run P w=.ok c w from rfl];simp only
  rw[wc,show (typeInfo i.elem).run P w=.ok je w by simp[typeInfo,program,Sem.run,hje,pure]];simp only
  rw[hw1,hw2,hjb]
  have hcom:(i.eb:Int)*c=c*(i.eb:Int):=Int.mul_comm _ _
  rw[if_neg (by simp;omega)]
  have hroom:(askRoom (c.toNat*i.eb)).run P w=.ok () w:=by
   unfold askRoom
   split<;>rfl
  rw[wc,hroom];simp only
  rw[wc,wZ hje,hjs];simp only
  have hcells:((Array.range (c.toNat*i.esz)).map (fun q=>z.cells[q%z.cells.size]!))=((List.replicate c.toNat z.cells.toList).flatten).toArray:=by
   apply Array.ext'
   rw[<-hzl];exact yE z.cells (by omega) c.toNat
  split
  ·rename_i hz0
   rw[wc,zZ];simp only
   have:c.toNat=0:=by
    rcases Nat.mul_eq_zero.1 hz0 with h|h
    ·exact h
    ·omega
   rw[this] at n1 ⊢
   have hr0:Array.range 0=#[]:=rfl
   rw[Nat.zero_mul,hr0,Array.map_empty]
   simp only[List.replicate_zero,List.flatten_nil] at n1
   rw[wc,n1];rfl
  ·rw[wc,qb hje hz];simp only
   rw[wc,zZ];simp only
   rw[hcells,wc,n1];rfl
 exact ⟨je,z,w',hje,hz,hzr m,hzl,hkn,hrun,n2⟩

theorem Kb {P:Program} {X:Nat->Prop} {ρ:Nat->Hd} {m:Mem} {L:Nat->Option MObj} {w:World} (h:Hp X ρ m L w) {T:Nat} {i:TI} (ht:TOK P T i) {k:Kd} (hk:i.ek=some k) {d:Nat} (hfr:∀k o,L k=some o->k≠d->o.has d=false)
  {n c:Int} (h0:0<=n) (hnc:n<=c) (hc:c*(i.eb:Int)<=140737488355328) (hb:1<=i.eb) (h1:1<=i.esz) (kn kc:IntKind) :
  ja P X ρ m L w d (do pure (.value (← Instr.makeSlice T (.int kn n) (.int kc c)))) (.sl d) [(d,some (.rows k (List.replicate n.toNat k.df)))] true:=by
 obtain ⟨je,z,w',hje,hz,hzr,hzl,hkn,hrun,n2⟩:=vR (m:=m) w ht hk h0 hnc hc hb h1 kn kc
 have hr:=fun q hq=>vO hzr c.toNat q hq
 refine vp h hfr n2 (cap:=c.toNat) (by simp;omega) ?_ (fun q hq=>?_) _ ?_
 ·rw[List.length_flatten];simp[hzl,hkn]
 ·simp only[List.length_replicate] at hq
  rw[List.getElem_replicate]
  exact hr q (by omega)
 ·rw[wc,hrun,List.length_replicate];rfl

theorem Qa {d:Nat} {l:List MV} (h:MV.hasL d l=false):∀n:Nat,MV.hasL d (List.replicate n l).flatten=false
 | 0=>rfl
 | n+1=>by
  have app:∀a b:List MV,MV.hasL d a=false->MV.hasL d b=false->MV.hasL d (a++b)=false:=by
   intro a
   induction a with
   | nil=>intro b _ h;exact h
   | cons x a ih =>
    intro b h h'
    simp only[MV.hasL,Bool.or_eq_false_iff,List.cons_append] at h ⊢
    exact ⟨h.1,ih b h.2 h'⟩
  rw[List.replicate_succ,List.flatten_cons];exact app _ _ h (Qa h n)
theorem K4 {ρ:Nat->Hd} {m:Mem} {l:List MV} {vs:List Value} (h:CvL ρ m l vs):∀n:Nat,CvL ρ m (List.replicate n l).flatten (List.replicate n vs).flatten
 | 0=>rfl
 | n+1=>by
  rw[List.replicate_succ,List.flatten_cons,List.replicate_succ,List.flatten_cons];exact h.append (K4 h n)
theorem YE {P:Program} {X:Nat->Prop} {ρ:Nat->Hd} {m:Mem} {L:Nat->Option MObj} {w:World} (h:Hp X ρ m L w) {T:Nat} {i ie:TI} (ht:TOK P T i) (hslc:i.slc=true) (hte:TOK P i.elem ie) {d:Nat} (hfr:∀k o,L k=some o->k≠d->o.has d=false)
  {n:Int} (h0:0<=n) (hc:n.toNat*ie.bytes<=16777216) (hb:1<=ie.bytes) (h1:1<=i.esz) (hzs:ie.zero.length=i.esz) (kn kc:IntKind) :
  ja P X ρ m L w d (do pure (.value (← Instr.makeSlice T (.int kn n) (.int kc n)))) (.hd d n.toNat) [(d,some (.cells (List.replicate n.toNat ie.zero).flatten))] true:=by
 obtain ⟨hund,hsz⟩:=ht.slc hslc
 obtain ⟨je,hje,hjs⟩:=zW hsz
 obtain ⟨je',z,hj',_,hjb,hz,hzc⟩:=hte.info
 rw[hje] at hj';cases hj'
 have hzl:z.cells.size=i.esz:=by
  have:=CvL.length (hzc ρ m);rw[<-hzs,<-this];simp
 have hcb:n<=16777216:=by
  have:n.toNat*1<=n.toNat*ie.bytes:=Nat.mul_le_mul_left _ hb
  omega
 have hcb2:n*(ie.bytes:Int)<=16777216:=by
  have e:n*(ie.bytes:Int)=((n.toNat*ie.bytes:Nat):Int):=by rw[Int.natCast_mul,Int.toNat_of_nonneg h0]
  omega
 have hw1:IntKind.i64.wrap n=n:=by
  have e1:IntKind.i64.bits=64:=rfl
  have e2:IntKind.i64.signed=true:=rfl
  unfold IntKind.wrap
  simp only[e1,e2,Bool.true_and,decide_eq_true_eq]
  omega
 obtain ⟨w',n1,n2⟩:=ya (P:=P) i.elem (((List.replicate n.toNat z.cells.toList).flatten).toArray) w
 have hrun:(Instr.makeSlice T (.int kn n) (.int kc n)).run P w=.ok (.slice (some ⟨w.heap.size,0,none⟩) n.toNat n.toNat) w':=by
  unfold Instr.makeSlice
  rw[wc,wm hund];simp only
  rw[wc,show (asInt (.int kn n)).run P w=.ok n w from rfl];simp only
  rw[wc,show (asInt (.int kc n)).run P w=.ok n w from rfl];simp only
  rw[wc,show (typeInfo i.elem).run P w=.ok je w by simp[typeInfo,program,Sem.run,hje,pure]];simp only
  rw[hw1,hjb]
  have hcom:(ie.bytes:Int)*n=n*(ie.bytes:Int):=Int.mul_comm _ _
  rw[if_neg (by simp;omega)]
  have hroom:(askRoom (n.toNat*ie.bytes)).run P w=.ok () w:=by
   unfold askRoom
   split<;>rfl
  rw[wc,hroom];simp only
  rw[wc,wZ hje,hjs];simp only
  have hcells:((Array.range (n.toNat*i.esz)).map (fun q=>z.cells[q%z.cells.size]!))=((List.replicate n.toNat z.cells.toList).flatten).toArray:=by
   apply Array.ext'
   rw[<-hzl];exact yE z.cells (by omega) n.toNat
  split
  ·rename_i hz0
   rw[wc,zZ];simp only
   have:n.toNat=0:=by
    rcases Nat.mul_eq_zero.1 hz0 with h|h
    ·exact h
    ·omega
   rw[this] at n1 ⊢
   have hr0:Array.range 0=#[]:=rfl
   rw[Nat.zero_mul,hr0,Array.map_empty]
   simp only[List.replicate_zero,List.flatten_nil] at n1
   rw[wc,n1];rfl
  ·rw[wc,qb hje hz];simp only
   rw[wc,zZ];simp only
   rw[hcells,wc,n1];rfl
 refine ⟨_,w',setρ ρ d ⟨w.heap.size,0,0,false,0⟩,?_,.inl ⟨.slice (some ⟨w.heap.size,0,none⟩) n.toNat n.toNat,rfl,by simp only[Cv,setρ_eq]⟩,?_⟩
 ·rw[wc,hrun];rfl
 ·have ho:osat (setρ ρ d ⟨w.heap.size,0,0,false,0⟩) m w' d (.cells (List.replicate n.toNat ie.zero).flatten):=by
   refine ⟨by rw[setρ_eq],_,i.elem,?_,(K4 (hzc ρ m) n.toNat).setρ (Qa (hte.zfr d) n.toNat)⟩
   rw[setρ_eq,n2.heap];simp
  obtain ⟨q1,q2⟩:=n2.hp h (hd:=⟨w.heap.size,0,0,false,0⟩) rfl hfr ho
  exact ⟨q1,q2,fun k hk=>setρ_ne _ _ _ hk,fun e=>by cases e⟩
end
section

theorem Wu {m:Mem}:∀(k:Kd) (x:k.T) (cs:List Value),k.R m x cs->∀v∈cs,ocell v=true
 | .int _,_,_,h,v,hv=>by simp only[Kd.R] at h;subst h;simp at hv;subst hv;rfl
 | .bool,_,_,h,v,hv=>by simp only[Kd.R] at h;subst h;simp at hv;subst hv;rfl
 | .str,_,_,h,v,hv=>by simp only[Kd.R] at h;subst h;simp at hv;subst hv;rfl
 | .slice e,l,cs,h,v,hv=>by
  obtain ⟨u,rfl,hs⟩:=h
  simp at hv;subst hv
  rcases hs with ⟨_,rfl,_⟩|⟨b,off,cap,cells,T',fr,rfl,_⟩<;>rfl
 | .pair a b,x,cs,h,v,hv=>by
  obtain ⟨c,d,rfl,h1,h2⟩:=h
  rcases List.mem_append.1 hv with hv|hv
  ·exact Wu a _ _ h1 v hv
  ·exact Wu b _ _ h2 v hv
 | .unit,_,_,h,v,hv=>by simp only[Kd.R] at h;subst h;cases hv
 | .ptr,_,_,h,v,hv=>by simp only[Kd.R] at h;subst h;simp at hv;subst hv;rfl
 | .hdr,x,_,h,v,hv=>by simp only[Kd.R] at h;subst h;simp at hv;subst hv;cases x<;>rfl

theorem Z4 (n:Nat):∀(r c:Nat),c<=2*n->256<=c->Builtin.growBy n r c<=2*n\/Builtin.growBy n r c<=n+(n+768)/4
 | 0,c,h,_=>.inl h
 | r+1,c,h,h2=>by
  unfold Builtin.growBy
  split
  ·exact .inl h
  ·rename_i hc
   rcases Nat.lt_or_ge (2*n) (c+(c+768)/4) with h3|h3
   ·right
    have:∀(r c':Nat),n<=c'->Builtin.growBy n r c'=c':=by
     intro r c' hc'
     cases r with
     | zero=>rfl
     | succ r=>unfold Builtin.growBy;rw[if_pos hc']
    rw[this _ _ (by omega)]
    have:(c+768)/4<=(n+768)/4:=Nat.div_le_div_right (by omega)
    omega
   ·exact Z4 n r _ h3 (by omega)

theorem ZE {n c:Nat} (h:c<n):Builtin.nextslicecap n c<=2*n:=by
 unfold Builtin.nextslicecap
 split
 ·omega
 ·split
  ·omega
  ·have:=Z4 n 4 c (by omega) (by omega)
   have h3:(n+768)/4<=n:=by omega
   omega

structure Src (P:Program) (m:Mem) (k:Kd) (w:World) (ys:List k.T) (v:Value) (cs:List Value):Prop where
  lenof:∀w:World,(Builtin.lenOf v).run P w=.ok ys.length w
  read:∀n,(Builtin.firstCells k.n ys.length v).run P { w with drawn:=n }=.ok cs.toArray { w with drawn:=n }
  len:cs.length=ys.length*k.n
  el:∀(i:Nat) (h:i<ys.length),k.R m ys[i] ((cs.drop (i*k.n)).take k.n)

theorem xd {P:Program} {m:Mem} {k:Kd} {w:World} {ys:List k.T} {b off cap:Nat} {vs:List Value} {T:TypeId} {fr:Nat×Nat} (h:w.heap[b]? = some (.cells vs.toArray T fr)) (hl:off+ys.length*k.n<=vs.length)
  (he:∀(i:Nat) (h:i<ys.length),k.R m ys[i] ((vs.drop (off+i*k.n)).take k.n)):Src P m k w ys (.slice (some ⟨b,off,none⟩) ys.length cap) ((vs.drop off).take (ys.length*k.n)):=by
 refine ⟨fun _=>rfl,fun n=>?_,by simp;omega,fun i hi=>?_⟩
 ·have:=yR (P:=P) (w:={ w with drawn:=n }) (off:=off) (n:=ys.length*k.n) h (by simpa using hl)
  simpa [Builtin.firstCells] using this
 ·have:=he i hi
  have hle:(i+1)*k.n<=ys.length*k.n:=Nat.mul_le_mul_right _ hi
  rw[Nat.add_mul,Nat.one_mul] at hle
  rw[List.drop_take,List.drop_drop,List.take_take,Nat.min_eq_left (by omega)]
  exact this

theorem u6 {P:Program} {L:List (Nat×Option MObj)} {k:Kd} {x:MV} {ys:List k.T} (h:JV L k x=some ys) {ρ:Nat->Hd} {m:Mem} {w:World} (hO:∀k o,ww L k=some o->osat ρ m w k o) (hM:∀b o,m b=some o->w.heap[b]? = some o)
  {v:Value} (hv:Cv ρ m x v):∃cs,Src P m k w ys v cs:=by
 have nilsrc:∀(a:Option Addr) (ys:List k.T),ys=[]->Src P m k w ys (.slice a 0 0) []:=by
  intro a ys e;subst e
  refine ⟨fun _=>rfl,fun n=>?_,by simp,fun i hi=>by simp at hi⟩
  cases a with
  | none=>rfl
  | some a =>
   show (loadCells a (0*k.n)).run P _=_
   rw[Nat.zero_mul];rfl
 unfold JV at h
 split at h
 ·simp only[Option.some.injEq] at h
  simp only[Cv] at hv;subst hv
  exact ⟨[],nilsrc _ _ h.symm⟩
 ·rename_i e l
  split at h
  ·rename_i he
   subst he
   simp only[Option.some.injEq] at h;subst h
   obtain ⟨u,hu,hs⟩:=hv
   simp only[List.cons.injEq,and_true] at hu;subst hu
   rcases hs with ⟨_,rfl,rfl⟩|⟨b,off,cap,cells,T,fr,rfl,g2,g3,g4,g5⟩
   ·exact ⟨[],nilsrc _ _ rfl⟩
   ·exact ⟨_,xd (vs:=cells.toList) (by rw[Array.toArray_toList];exact hM _ _ g3) (by simpa using g4) g5⟩
  ·cases h
 ·rename_i key
  split at h
  ·rename_i e l hk
   split at h
   ·rename_i he
    subst he
    simp only[Option.some.injEq] at h;subst h
    obtain ⟨g0,g1,g2⟩:=hO _ _ hk
    simp only[Cv] at hv;subst hv
    unfold Hd.hdr
    rcases g2 with ⟨hn,rfl⟩|⟨hn,hcap,vs,T,hb,hvl,hel⟩
    ·rw[hn];exact ⟨[],nilsrc _ _ rfl⟩
    ·have hle:l.length*e.n<=(ρ key).cap*e.n:=Nat.mul_le_mul_right _ hcap
     rw[hn,g0];exact ⟨_,xd (off:=0) hb (by omega) (by simpa using hel)⟩
   ·cases h
  ·cases h
 ·rename_i key c
  split at h
  ·rename_i e n l hk
   split at h
   ·rename_i he
    subst he
    split at h
    ·rename_i hc
     simp only[Option.some.injEq] at h;subst h
     obtain ⟨g0,g1,vs,T,hb,hvl,hel⟩:=hO _ _ hk
     simp only[Cv] at hv;subst hv
     rw[beq_iff_eq.1 hc,<-g1]
     exact ⟨_,xd (off:=0) hb (by rw[hvl,<-g1];omega) (by simpa using hel)⟩
    ·cases h
   ·cases h
  ·cases h
 ·cases h

theorem QJ {P:Program} {L:List (Nat×Option MObj)} {k:Kd} {x:MV} {ys:List k.T} (h:UB L k x=some ys) {ρ:Nat->Hd} {m:Mem} {w:World} (hO:∀k o,ww L k=some o->osat ρ m w k o) (hM:∀b o,m b=some o->w.heap[b]? = some o)
  {v:Value} (hv:Cv ρ m x v):∃cs,Src P m k w ys v cs:=by
 unfold UB at h
 split at h
 ·rename_i s
  split at h
  ·rename_i e
   subst e
   simp only[Option.some.injEq] at h;subst h
   simp only[Cv] at hv;subst hv
   refine ⟨(sbytes s).map (Value.int .u8),fun w=>?_,fun n=>?_,by simp[Kd.n],fun i hi=>?_⟩
   ·show (pure s.size:Sem Nat).run P w=_
    rw[vY];rfl
   ·rw[vY]
    show (pure ((s.extract 0 s.size).data.map fun b=>Value.int .u8 b.toNat):Sem (Array Value)).run P _=_
    rw[zZ]
    congr 1
    apply Array.ext'
    simp[sbytes]
   ·simp only[Kd.R,Kd.n,Nat.mul_one]
    have hi':i<((sbytes s).map (Value.int .u8)).length:=by simpa using hi
    rw[List.drop_eq_getElem_cons hi',List.take_succ_cons,List.take_zero,List.getElem_map]
  ·cases h
 ·exact u6 h hO hM hv
end
section

structure ATy (P:Program) (tys:Array TypeId) (T:TypeId):Prop where
  t0:tys[0]? = some T
  t1:∀t,tys[1]? = some t->∃d,P.underlying t=some d/\∀q,d≠.int q

theorem vy {P:Program} {tys:Array TypeId} {ty T:TypeId} (hT:ATy P tys T) {i:TI} (ht:TOK P T i) {k:Kd} (hk:i.ek=some k)
  {base:Option Addr} {sLen sCap:Nat} {v:Value} {w:World} {m:Mem} {ys:List k.T} {cs:List Value} (hsrc:Src P m k w ys v cs) (hle:sLen+ys.length<=sCap) {w':World}
  (hst:(match base with|some a=>storeCells (a.add (sLen*k.n)) cs|none=>pure ():Sem Unit).run P w=.ok () w') :
  (Builtin.append_ tys ty #[.slice base sLen sCap,v]).run P w=.ok (.slice base (sLen+ys.length) sCap) w':=by
 obtain ⟨hslc,hkn,je,z,hje,hjb,hz',hzr⟩:=ht.ek k hk
 obtain ⟨hund,hsz⟩:=ht.slc hslc
 obtain ⟨j',hj',hjs⟩:=zW hsz
 rw[hje] at hj';cases hj'
 have hread:(Builtin.firstCells k.n ys.length v).run P w=.ok cs.toArray w:=hsrc.read w.drawn
 have hsize:∀w,(sizeOf i.elem).run P w=.ok k.n w:=fun w=>by rw[wZ hje,hjs,hkn]
 unfold Builtin.append_
 simp only[hT.t0,List.getElem?_toArray,List.getElem?_cons_zero,List.getElem?_cons_succ]
 rw[wc,wm hund];simp only
 rw[wc,hsize];simp only
 cases h1:tys[1]? with
 | none =>
  simp only
  rw[wc,zZ];simp only[Bool.false_eq_true,if_false,Bool.not_false,if_true]
  rw[wc,show (Builtin.lenOf v).run P w=.ok ys.length w from hsrc.lenof w];simp only
  rw[if_pos hle,wc,hread];simp only
  cases base with
  | none=>simp only[zZ] at hst ⊢;cases hst;rfl
  | some b=>simp only at hst ⊢;rw[wc,hst];rfl
 | some t =>
  obtain ⟨d,hd,hq⟩:=hT.t1 t h1
  simp only
  rw[wc,wm hd];simp only
  rw[wc,zZ];simp only[Bool.false_eq_true,if_false,Bool.not_false,if_true]
  rw[wc,show (Builtin.lenOf v).run P w=.ok ys.length w from hsrc.lenof w];simp only
  rw[if_pos hle,wc,hread];simp only
  cases base with
  | none=>simp only[zZ] at hst ⊢;cases hst;rfl
  | some b=>simp only at hst ⊢;rw[wc,hst];rfl

theorem Wi {P:Program} {tys:Array TypeId} {ty T:TypeId} (hT:ATy P tys T) {i:TI} (ht:TOK P T i) {k:Kd} (hk:i.ek=some k) (hb:1<=i.eb)
  {base:Option Addr} {sLen sCap:Nat} {v:Value} {w:World} {m:Mem} {ys:List k.T} {cs os:List Value} (hsrc:Src P m k w ys v cs) (hgt:sCap<sLen+ys.length) (hbound:(sLen+ys.length)*i.eb<=70368744177664)
  (hold:∀n,(Builtin.firstCells k.n sLen (.slice base sLen sCap)).run P { w with drawn:=n }=.ok os.toArray { w with drawn:=n }) :
  ∃w' cap rest,(Builtin.append_ tys ty #[.slice base sLen sCap,v]).run P w=.ok (.slice (some ⟨w.heap.size,0,none⟩) (sLen+ys.length) cap) w'/\Nw w w' (.cells (os++(cs++rest)).toArray i.elem (0,0))/\sLen+ys.length<=cap/\rest.length=(cap-(sLen+ys.length))*k.n:=by
 obtain ⟨hslc,hkn,je,z,hje,hjb,hz',hzr⟩:=ht.ek k hk
 obtain ⟨hund,hsz⟩:=ht.slc hslc
 obtain ⟨j',hj',hjs⟩:=zW hsz
 rw[hje] at hj';cases hj'
 have hzl:z.cells.size=k.n:=by
  have:=Kd.R.len _ _ _ (hzr m);rw[<-this];simp
 have hread:=hsrc.read
 have hti:∀w,(typeInfo i.elem).run P w=.ok je w:=fun w=>by simp[typeInfo,program,Sem.run,hje,pure]
 have hsize:∀w,(sizeOf i.elem).run P w=.ok k.n w:=fun w=>by rw[wZ hje,hjs,hkn]
 have hno1:¬(((sLen+ys.length:Nat):Int)>IntKind.i64.max/\(false=true\/je.bytes=0)):=by
  rintro ⟨_,h|h⟩
  ·cases h
  ·omega
 have hno2:¬(Builtin.nextslicecap (sLen+ys.length) sCap*je.bytes>2^48):=by
  have h1:=ZE hgt
  have h2:Builtin.nextslicecap (sLen+ys.length) sCap*i.eb<=(2*(sLen+ys.length))*i.eb:=Nat.mul_le_mul_right _ h1
  have h3:(2*(sLen+ys.length))*i.eb=2*((sLen+ys.length)*i.eb):=Nat.mul_assoc _ _ _
  rw[hjb];omega
 let q:Question:=.appendCap (sLen+ys.length) sCap i.elem
 let cap:=q.cut (w.tape w.drawn q)
 have hcap:sLen+ys.length<=cap:=Nat.le_add_right _ _
 have hroom:∀(n:Nat) w,(askRoom n).run P w=.ok () w:=by intro n w;unfold askRoom;split<;>rfl
 refine ⟨{ w with drawn:=w.drawn+1,heap:=w.heap.push (.cells (os.toArray++cs.toArray++Builtin.zeroCells z.cells (cap-(sLen+ys.length))) i.elem (0,0)) },cap,(Builtin.zeroCells z.cells (cap-(sLen+ys.length))).toList,?_,⟨?_,rfl,rfl,rfl⟩,hcap,?_⟩
 case refine_3=>simp[Builtin.zeroCells,hzl]
 case refine_2 =>
  show w.heap.push _=_
  congr 2
  apply Array.ext';simp
 unfold Builtin.append_
 simp only[hT.t0,List.getElem?_toArray,List.getElem?_cons_zero,List.getElem?_cons_succ]
 rw[wc,wm hund];simp only
 rw[wc,hsize];simp only
 cases h1:tys[1]? with
 | none =>
  simp only
  rw[wc,zZ];simp only[Bool.false_eq_true,if_false,Bool.not_false,if_true]
  rw[wc,show (Builtin.lenOf v).run P w=.ok ys.length w from hsrc.lenof w];simp only
  rw[if_neg (by omega),wc,hti];simp only
  rw[if_neg (by simpa using hno1),wc,hti];simp only
  rw[if_neg hno2]
  rw[wc,show (choose q).run P w=.ok cap { w with drawn:=w.drawn+1 } from rfl];simp only
  rw[wc,hti];simp only
  rw[wc,hroom];simp only
  rw[wc,hold];simp only
  rw[wc,hread];simp only
  rw[wc,qb hje hz'];rfl
 | some t =>
  obtain ⟨d,hd,hq⟩:=hT.t1 t h1
  simp only
  rw[wc,wm hd];simp only
  rw[wc,zZ];simp only[Bool.false_eq_true,if_false,Bool.not_false,if_true]
  rw[wc,show (Builtin.lenOf v).run P w=.ok ys.length w from hsrc.lenof w];simp only
  rw[if_neg (by omega),wc,hti];simp only
  rw[if_neg (by simpa using hno1),wc,hti];simp only
  rw[if_neg hno2]
  rw[wc,show (choose q).run P w=.ok cap { w with drawn:=w.drawn+1 } from rfl];simp only
  rw[wc,hti];simp only
  rw[wc,hroom];simp only
  rw[wc,hold];simp only
  rw[wc,hread];simp only
  rw[wc,qb hje hz'];rfl

structure ApS (P:Program) (m:Mem) (k:Kd) (w:World) (tys:Array TypeId) (ty:TypeId) (i:TI) (v:Value) (ys:List k.T) (cs:List Value):Prop where
  len:cs.length=ys.length*k.n
  el:∀(j:Nat) (h:j<ys.length),k.R m ys[j] ((cs.drop (j*k.n)).take k.n)
  fits:∀{base:Option Addr} {sLen sCap:Nat} {w':World},sLen+ys.length<=sCap->(match base with|some a=>storeCells (a.add (sLen*k.n)) cs|none=>pure ():Sem Unit).run P w=.ok () w'->(Builtin.append_ tys ty #[.slice base sLen sCap,v]).run P w=.ok (.slice base (sLen+ys.length) sCap) w'
  grows:∀{base:Option Addr} {sLen sCap:Nat} {os:List Value},sCap<sLen+ys.length->(sLen+ys.length)*i.eb<=70368744177664->(∀n,(Builtin.firstCells k.n sLen (.slice base sLen sCap)).run P { w with drawn:=n }=.ok os.toArray { w with drawn:=n }) →
    ∃w' cap rest,(Builtin.append_ tys ty #[.slice base sLen sCap,v]).run P w=.ok (.slice (some ⟨w.heap.size,0,none⟩) (sLen+ys.length) cap) w'/\Nw w w' (.cells (os++(cs++rest)).toArray i.elem (0,0))/\sLen+ys.length<=cap/\rest.length=(cap-(sLen+ys.length))*k.n
theorem uE {P:Program} {tys:Array TypeId} {ty T:TypeId} (hT:ATy P tys T) {i:TI} (ht:TOK P T i) {k:Kd} (hk:i.ek=some k) (hb:1<=i.eb) {v:Value} {w:World} {m:Mem} {ys:List k.T} {cs:List Value} (hsrc:Src P m k w ys v cs):ApS P m k w tys ty i v ys cs :=
 ⟨hsrc.len,hsrc.el,fun hle hst=>vy hT ht hk hsrc hle hst,fun hgt hbd hold=>Wi hT ht hk hb hsrc hgt hbd hold⟩
theorem gS {P:Program} {m:Mem} {k:Kd} {w:World} {ρ:Nat->Hd} {q c:Nat} {ys:List k.T} (h:osat ρ m w q (.rows k ys)) (hc:c<=ys.length) (h0:0<c) {v:Value} (hv:Cv ρ m (.sp q c) v):∃cs,Src P m k w (ys.take c) v cs:=by
 obtain ⟨g0,g1,g2⟩:=h
 rcases g2 with ⟨_,rfl⟩|⟨hn,hcap,vs,T,hb,hvl,hel⟩
 ·simp at hc;omega
 ·simp only[Cv] at hv;subst hv
  have hl:(ys.take c).length=c:=by rw[List.length_take,Nat.min_eq_left hc]
  have hm:c*k.n<=(ρ q).cap*k.n:=Nat.mul_le_mul_right _ (by omega)
  have:=xd (P:=P) (m:=m) (k:=k) (w:=w) (ys:=ys.take c) (b:=(ρ q).blk) (off:=0) (cap:=(ρ q).cap) hb (by rw[hl];omega) (fun i hi=>by
   rw[hl] at hi
   rw[List.getElem_take,Nat.zero_add];exact hel i (by omega))
  rw[hl] at this
  exact ⟨_,this⟩
theorem JK {n:Int} (h0:0<=n) (h1:n<=70368744177664):IntKind.i64.wrap n=n:=by
 simp only[IntKind.wrap,IntKind.signed,IntKind.bits]
 simp
 split<;>omega
theorem uk {m:Mem} {k:Kd} {z:List Value} (hz:k.R m k.df z) (n:Nat):∀(j:Nat) (h:j<(List.replicate n k.df).length),k.R m (List.replicate n k.df)[j] (((List.replicate n z).flatten.drop (j*k.n)).take k.n):=by
 intro j h
 rw[List.getElem_replicate]
 exact vO hz n j (by simpa using h)
theorem UA {P:Program} {tys:Array TypeId} {ty T t:TypeId} (h0:tys[0]? = some T) (h1:tys[1]? = some t) {q:IntKind} (hq:P.underlying t=some (.int q)) {i:TI} (ht:TOK P T i) {k:Kd} (hk:i.ek=some k) (hb:1<=i.eb) (hes:1<=i.esz) {kn:IntKind} {n:Int} (hn0:0<=n) (hn1:n*(i.eb:Int)<=70368744177664) {w:World} (m:Mem) :
  ∃cs,ApS P m k w tys ty i (.int kn n) (List.replicate n.toNat k.df) cs:=by
 obtain ⟨hslc,hkn,je,z,hje,hjb,hz',hzr⟩:=ht.ek k hk
 obtain ⟨hund,hsz⟩:=ht.slc hslc
 obtain ⟨j',hj',hjs⟩:=zW hsz
 rw[hje] at hj';cases hj'
 have hzl:z.cells.size=k.n:=by
  have:=Kd.R.len _ _ _ (hzr m);rw[<-this];simp
 have hti:∀w,(typeInfo i.elem).run P w=.ok je w:=fun w=>by simp[typeInfo,program,Sem.run,hje,pure]
 have hsize:∀w,(sizeOf i.elem).run P w=.ok k.n w:=fun w=>by rw[wZ hje,hjs,hkn]
 have hns:n<=70368744177664:=by
  have:n*1<=n*(i.eb:Int):=Int.mul_le_mul_of_nonneg_left (by omega) hn0
  omega
 have hw:IntKind.i64.wrap n=n:=JK hn0 hns
 have hzc:(Builtin.zeroCells z.cells n.toNat).toList=(List.replicate n.toNat z.cells.toList).flatten:=by
  unfold Builtin.zeroCells
  exact yE z.cells (by omega) n.toNat
 have hrl:(List.replicate n.toNat k.df).length=n.toNat:=List.length_replicate
 have happ:∀w,(if n.toNat*k.n=0 then pure #[] else do pure (Builtin.zeroCells (← zeroValue i.elem).cells n.toNat):Sem (Array Value)).run P w=.ok (Builtin.zeroCells z.cells n.toNat) w:=fun w=>by
  split
  ·rename_i e
   have:n.toNat=0:=by
    rcases Nat.mul_eq_zero.1 e with e|e
    ·exact e
    ·omega
   rw[this]
   have:Builtin.zeroCells z.cells 0=#[]:=by unfold Builtin.zeroCells;simp
   rw[this];rfl
  ·rw[wc,qb hje hz'];rfl
 have hno:¬(n<0):=by omega
 have hno':¬(n*((je.bytes:Nat):Int)>2^48):=by rw[hjb];omega
 refine ⟨(Builtin.zeroCells z.cells n.toNat).toList,?_,?_,?_,?_⟩
 ·rw[hrl];simp[Builtin.zeroCells,hzl]
 ·rw[hzc];exact uk (hzr m) _
 ·intro base sLen sCap w' hle hst
  rw[hrl] at hle ⊢
  unfold Builtin.append_
  simp only[h0,h1,List.getElem?_toArray,List.getElem?_cons_zero,List.getElem?_cons_succ]
  rw[wc,wm hund];simp only
  rw[wc,hsize];simp only
  rw[wc,wm hq];simp only
  rw[wc,zZ];simp only[if_true]
  rw[wc,show (asInt (.int kn n)).run P w=.ok n w from rfl];simp only[hw]
  rw[if_neg hno,wc,hti];simp only
  rw[if_neg hno',wc,zZ];simp only[Bool.not_true,Bool.false_eq_true,if_false]
  rw[if_pos hle,wc,happ];simp only
  cases base with
  | none=>simp only[zZ] at hst ⊢;cases hst;rfl
  | some b=>simp only at hst ⊢;rw[wc,hst];rfl
 ·intro base sLen sCap os hgt hbound hold
  rw[hrl] at hgt hbound ⊢
  have hnd:sLen+n.toNat<=70368744177664:=by
   have:(sLen+n.toNat)*1<=(sLen+n.toNat)*i.eb:=Nat.mul_le_mul_left _ hb
   omega
  have hno1:¬(((sLen+n.toNat:Nat):Int)>IntKind.i64.max/\(true=true\/je.bytes=0)):=by
   rintro ⟨h,_⟩
   have:IntKind.i64.max=9223372036854775807:=by decide
   omega
  have hno2:¬(Builtin.nextslicecap (sLen+n.toNat) sCap*je.bytes>2^48):=by
   have h1:=ZE hgt
   have h2:Builtin.nextslicecap (sLen+n.toNat) sCap*i.eb<=(2*(sLen+n.toNat))*i.eb:=Nat.mul_le_mul_right _ h1
   have h3:(2*(sLen+n.toNat))*i.eb=2*((sLen+n.toNat)*i.eb):=Nat.mul_assoc _ _ _
   rw[hjb];omega
  let q:Question:=.appendCap (sLen+n.toNat) sCap i.elem
  let cap:=q.cut (w.tape w.drawn q)
  have hcap:sLen+n.toNat<=cap:=Nat.le_add_right _ _
  have hroom:∀(n:Nat) w,(askRoom n).run P w=.ok () w:=by intro n w;unfold askRoom;split<;>rfl
  refine ⟨{ w with drawn:=w.drawn+1,heap:=w.heap.push (.cells (os.toArray++Builtin.zeroCells z.cells n.toNat++Builtin.zeroCells z.cells (cap-(sLen+n.toNat))) i.elem (0,0)) },cap,(Builtin.zeroCells z.cells (cap-(sLen+n.toNat))).toList,?_,⟨?_,rfl,rfl,rfl⟩,hcap,?_⟩
  case refine_3=>simp[Builtin.zeroCells,hzl]
  case refine_2 =>
   show w.heap.push _=_
   congr 2
   apply Array.ext';simp
  unfold Builtin.append_
  simp only[h0,h1,List.getElem?_toArray,List.getElem?_cons_zero,List.getElem?_cons_succ]
  rw[wc,wm hund];simp only
  rw[wc,hsize];simp only
  rw[wc,wm hq];simp only
  rw[wc,zZ];simp only[if_true]
  rw[wc,show (asInt (.int kn n)).run P w=.ok n w from rfl];simp only[hw]
  rw[if_neg hno,wc,hti];simp only
  rw[if_neg hno',wc,zZ];simp only[Bool.not_true,Bool.false_eq_true,if_false]
  rw[if_neg (by omega),wc,hti];simp only
  rw[if_neg (by simpa using hno1),wc,hti];simp only
  rw[if_neg hno2]
  rw[wc,show (choose q).run P w=.ok cap { w with drawn:=w.drawn+1 } from rfl];simp only
  rw[wc,hti];simp only
  rw[wc,hroom];simp only
  rw[wc,hold];simp only
  rw[wc,happ];simp only
  rw[wc,qb hje hz'];rfl
end
section

theorem ZI {P:Program} {X:Nat->Prop} {ρ:Nat->Hd} {m:Mem} {L:Nat->Option MObj} {w:World} (h:Hp X ρ m L w) {tys:Array TypeId} {ty:TypeId} {i:TI} {k:Kd}
  {key d:Nat} {xs:List k.T} (hkey:L key=some (.rows k xs)) (hfr:∀k o,L k=some o->k≠d->o.has d=false) {v:Value} {ys:List k.T} {cs:List Value} (hsrc:ApS P m k w tys ty i v ys cs)
  (hbound:((xs.length:Int)+(ys.length:Int))*(i.eb:Int)<=70368744177664) :
  ja P X ρ m L w d (do pure (.value (← Builtin.append_ tys ty #[(ρ key).hdr,v]))) (.sl d) [(d,some (.rows k (xs++ys))),(key,none)] true:=by
 obtain ⟨g0,g1,g2⟩:=h.obj _ _ hkey
 have hel1:∀v∈cs,ocell v=true:=by
  intro u hu
  obtain ⟨q,hq,rfl⟩:=List.getElem_of_mem hu
  have hpos:0<k.n:=by
   rcases Nat.eq_zero_or_pos k.n with e|e
   ·have:=hsrc.len;rw[e,Nat.mul_zero] at this;omega
   ·exact e
  have hqn:q/k.n<ys.length:=by rw[Nat.div_lt_iff_lt_mul hpos];rw[<-hsrc.len];exact hq
  have hR:=hsrc.el (q/k.n) hqn
  refine Wu k _ _ hR _ ?_
  have hdm:=Nat.div_add_mod q k.n
  have hmod:=Nat.mod_lt q hpos
  have e:(cs.drop (q/k.n*k.n)).take k.n=(cs.drop (q/k.n*k.n)).take k.n:=rfl
  rw[List.mem_take_iff_getElem]
  refine ⟨q%k.n,?_,?_⟩
  ·rw[List.length_drop,Nat.lt_min];rw[Nat.mul_comm] at hdm;exact ⟨hmod,by omega⟩
  ·rw[List.getElem_drop];congr 1;rw[Nat.mul_comm];exact hdm
 -- the old key goes
 have hL:∀(U:List (Nat×Option MObj)) k' o,qQ ([(d,some (.rows k (xs++ys))),(key,none)]) L k'=some o->qQ [(d,some (.rows k (xs++ys)))] L k'=some o:=by
  intro U k' o ho
  simp only[qQ] at ho ⊢
  split
  ·rename_i e;rw[if_pos e] at ho;exact ho
  ·rename_i e;rw[if_neg e] at ho
   split at ho
   ·cases ho
   ·exact ho
 have drop:∀s mv,ja P X ρ m L w d s mv [(d,some (.rows k (xs++ys)))] true->ja P X ρ m L w d s mv [(d,some (.rows k (xs++ys))),(key,none)] true:=by
  rintro s mv ⟨nx,w',ρ',h1,h2,h3,h4⟩
  exact ⟨nx,w',ρ',h1,h2,h3.weak (fun k' o ho=>hL [] k' o ho),h4⟩
 -- what stands in the old row
 have grow:∀(base:Option Addr) (sCap:Nat) (os:List Value),(ρ key).hdr=.slice base xs.length sCap->sCap<xs.length+ys.length->os.length=xs.length*k.n->(∀(q:Nat) (hq:q<xs.length),k.R m xs[q] ((os.drop (q*k.n)).take k.n)) →
   (∀n,(Builtin.firstCells k.n xs.length (.slice base xs.length sCap)).run P { w with drawn:=n }=.ok os.toArray { w with drawn:=n }) →
   ja P X ρ m L w d (do pure (.value (← Builtin.append_ tys ty #[(ρ key).hdr,v]))) (.sl d) [(d,some (.rows k (xs++ys))),(key,none)] true:=by
  intro base sCap os hh hgt hol hoe hor
  rw[hh]
  have hbn:(xs.length+ys.length)*i.eb<=70368744177664:=by
   have:(((xs.length+ys.length)*i.eb:Nat):Int)<=70368744177664:=by push_cast;exact hbound
   omega
  obtain ⟨w',cap,rest,r1,r2,r3,r4⟩:=hsrc.grows hgt hbn hor
  refine drop _ _ (vp h hfr r2 (k:=k) (xs:=xs++ys) (cap:=cap) (by simpa using r3) ?_ (fun q hq=>?_) _ ?_)
  ·simp only[List.length_append,hol,hsrc.len,r4]
   rw[<-Nat.add_assoc,<-Nat.add_mul,<-Nat.add_mul];congr 1;omega
  ·have hdiv:∀a b:Nat,a<b->a*k.n+k.n<=b*k.n:=fun a b hab=>by
    have:(a+1)*k.n<=b*k.n:=Nat.mul_le_mul_right _ hab
    rw[Nat.add_mul,Nat.one_mul] at this;exact this
   rcases Nat.lt_or_ge q xs.length with hlt|hge
   ·rw[List.getElem_append_left hlt]
    have:=hdiv q xs.length hlt
    rw[List.drop_append_of_le_length (by omega),List.take_append_of_le_length (by rw[List.length_drop];omega)]
    exact hoe q hlt
   ·rw[List.getElem_append_right hge]
    have hq':q-xs.length<ys.length:=by simp at hq;omega
    have h1:=hdiv (q-xs.length) ys.length hq'
    have h2:q*k.n=xs.length*k.n+(q-xs.length)*k.n:=by rw[<-Nat.add_mul];congr 1;omega
    rw[List.drop_append,List.drop_of_length_le (by rw[hol,h2];omega),List.nil_append,hol,show q*k.n-xs.length*k.n=(q-xs.length)*k.n by omega]
    rw[List.drop_append_of_le_length (by rw[hsrc.len];omega),List.take_append_of_le_length (by rw[List.length_drop,hsrc.len];omega)]
    exact hsrc.el _ hq'
  ·rw[wc,r1];simp only[List.length_append];rfl
 rcases g2 with ⟨hn,rfl⟩|⟨hn,hcap,vs,T',hbk,hvl,hel⟩
 ·-- a nil one
  have hh:(ρ key).hdr=.slice none 0 0:=by unfold Hd.hdr;rw[hn];rfl
  rcases Nat.eq_zero_or_pos ys.length with e|e
  ·have hys:ys=[]:=List.eq_nil_of_length_eq_zero e
   subst hys
   have hcs:cs=[]:=List.eq_nil_of_length_eq_zero (by simpa using hsrc.len)
   have hrun:(Builtin.append_ tys ty #[(ρ key).hdr,v]).run P w=.ok (.slice none 0 0) w:=by
    rw[hh];exact hsrc.fits (base:=none) (sLen:=0) (sCap:=0) (by simp) rfl
   refine ⟨_,w,setρ ρ d ⟨0,0,0,true,k.n⟩,by rw[wc,hrun];rfl,.inl ⟨_,rfl,by simp only[Cv,setρ_eq];rfl⟩,?_,Nx.refl X m w,fun k' hk'=>setρ_ne _ _ _ hk',fun e=>by cases e⟩
   refine Hp.weak ?_ (fun k' o ho=>hL [] k' o ho)
   rw[qT]
   refine h.turn d _ (fun _=>False) (fun k' hk'=>setρ_ne _ _ _ hk') (.inr fun k' o hk' hne=>hfr k' o hk' hne) (fun b _ _=>rfl) (Nat.le_refl _) (fun b _ hf=>hf.elim) (fun _ _ _ _ _ _ hf=>hf) (fun o ho=>?_)
   simp only[Option.some.injEq] at ho;subst ho
   refine ⟨⟨by rw[setρ_eq];rfl,by rw[setρ_eq],.inl ⟨by rw[setρ_eq],rfl⟩⟩,fun b hf=>?_⟩
   have:=hf.1;rw[setρ_eq] at this;cases this
  ·exact grow none 0 [] hh (by simp;exact e) (by simp) (fun q hq=>by simp at hq) (fun _=>rfl)
 ·have hh:(ρ key).hdr=.slice (some ⟨(ρ key).blk,0,none⟩) xs.length (ρ key).cap:=by unfold Hd.hdr;rw[hn,g0];rfl
  have hxl:xs.length*k.n<=vs.length:=by rw[hvl];exact Nat.mul_le_mul_right _ hcap
  rcases Nat.lt_or_ge (ρ key).cap (xs.length+ys.length) with hgt|hle
  ·have hs:=xd (P:=P) (m:=m) (k:=k) (w:=w) (ys:=xs) (b:=(ρ key).blk) (off:=0) (cap:=(ρ key).cap) hbk (by omega) (by simpa using hel)
   refine grow _ _ ((vs.drop 0).take (xs.length*k.n)) hh hgt hs.len hs.el hs.read
  ·-- it fits
   have hneed:(xs.length+ys.length)*k.n<=vs.length:=by rw[hvl];exact Nat.mul_le_mul_right _ hle
   rw[Nat.add_mul] at hneed
   obtain ⟨w',s1,s2⟩:=ko (P:=P) (b:=(ρ key).blk) (off:=xs.length*k.n) (T:=T') cs 0 w vs hbk (by rw[hsrc.len];omega) hel1
   have hrun:(Builtin.append_ tys ty #[(ρ key).hdr,v]).run P w=.ok (.slice (some ⟨(ρ key).blk,0,none⟩) (xs.length+ys.length) (ρ key).cap) w':=by
    rw[hh]
    refine hsrc.fits hle ?_
    simp only
    rw[kx,Nat.zero_add];exact s1
   refine ⟨_,w',setρ ρ d ⟨(ρ key).blk,xs.length+ys.length,(ρ key).cap,false,k.n⟩,by rw[wc,hrun];rfl,.inl ⟨_,rfl,by simp only[Cv,setρ_eq];rfl⟩,?_,s2.nx (h.djX key _ _ hkey ⟨hn,rfl⟩),fun k' hk'=>setρ_ne _ _ _ hk',fun e=>by cases e⟩
   -- without the old key
   have selK:∀{q:Nat} {o:MObj},(if q=key then none else L q)=some o->L q=some o:=fun {q o} e=>by
    split at e
    ·cases e
    ·exact e
   have h':Hp X ρ m (fun q=>if q=key then none else L q) w:=h.weak (fun q o ho=>by
    split at ho
    ·cases ho
    ·exact ho)
   have h3:=h'.turn (ρ':=setρ ρ d ⟨(ρ key).blk,xs.length+ys.length,(ρ key).cap,false,k.n⟩) (w':=w') d (some (.rows k (xs++ys))) (fun b=>b=(ρ key).blk) (fun k' hk'=>setρ_ne _ _ _ hk') (.inr fun k' o hk' hne=>by
     split at hk'
     ·cases hk'
     ·exact hfr k' o hk' hne) (fun b _ hb=>s2.un b hb) (Nat.le_of_eq s2.size.symm) (fun b _ hb=>hb▸h.djm key _ _ hkey ⟨hn,rfl⟩) (fun k' o b _ hk' hf hb=>by
     split at hk'
     ·cases hk'
     ·rename_i hne
      exact hne (h.dj k' o key _ b hk' hkey hf ⟨hn,hb⟩)) (fun o ho=>by
     simp only[Option.some.injEq] at ho;subst ho
     refine ⟨⟨by rw[setρ_eq];simp,by rw[setρ_eq],.inr ⟨by rw[setρ_eq],by rw[setρ_eq];simpa using hle,_,T',by rw[setρ_eq];exact s2.at_,?_,?_⟩⟩,fun b hf=>?_⟩
     ·have e1:=hneed
      have e2:=hxl
      rw[hvl] at e1 e2
      rw[setρ_eq];simp only[List.length_append,List.length_take,List.length_drop,hsrc.len,hvl];omega
     ·intro q hq
      have hlt0:(vs.take (xs.length*k.n+0)).length=xs.length*k.n:=by rw[List.length_take];omega
      have hdiv:∀a b:Nat,a<b->a*k.n+k.n<=b*k.n:=fun a b hab=>by
       have:(a+1)*k.n<=b*k.n:=Nat.mul_le_mul_right _ hab
       rw[Nat.add_mul,Nat.one_mul] at this;exact this
      rcases Nat.lt_or_ge q xs.length with hlt|hge
      ·rw[List.getElem_append_left hlt]
       have:=hdiv q xs.length hlt
       rw[List.drop_append_of_le_length (by omega),List.take_append_of_le_length (by rw[List.length_drop];omega),List.drop_take,List.take_take,Nat.min_eq_left (by omega)]
       exact hel q hlt
      ·rw[List.getElem_append_right hge]
       have hq':q-xs.length<ys.length:=by simp at hq;omega
       have h1:=hdiv (q-xs.length) ys.length hq'
       have h2:q*k.n=xs.length*k.n+(q-xs.length)*k.n:=by rw[<-Nat.add_mul];congr 1;omega
       rw[List.drop_append,List.drop_of_length_le (by rw[hlt0,h2];omega),List.nil_append,hlt0,show q*k.n-xs.length*k.n=(q-xs.length)*k.n by omega]
       rw[List.drop_append_of_le_length (by rw[hsrc.len];omega),List.take_append_of_le_length (by rw[List.length_drop,hsrc.len];omega)]
       exact hsrc.el _ hq'
     ·have hb:b=(ρ key).blk:=by have:=hf.2;rw[setρ_eq] at this;exact this
      subst hb
      refine ⟨h.djm key _ _ hkey ⟨hn,rfl⟩,h.djX key _ _ hkey ⟨hn,rfl⟩,fun k' o' _ hk' hf'=>?_⟩
      split at hk'
      ·cases hk'
      ·rename_i hne
       exact hne (h.dj k' o' key _ _ hk' hkey hf' ⟨hn,rfl⟩)) (hDi:=fun k' o b _ hk' hi hb=>(h.inn k' o b (selK hk') hi).2.2.1 key _ hkey ⟨hn,hb⟩) (hni:=fun o _ b hf k' o' _ hk' hi=>(h.inn k' o' b (selK hk') hi).2.2.1 key _ hkey ⟨hn,by have:=hf.2;rw[setρ_eq] at this;exact this⟩)
   refine h3.weak (fun k' o ho=>?_)
   simp only[qQ] at ho
   split at ho
   ·rename_i e;rw[if_pos e];exact ho
   ·rename_i e;rw[if_neg e]
    split at ho
    ·cases ho
    ·rename_i e2
     rw[if_neg (by intro e3;exact e2 (by rw[e3];exact beq_self_eq_true key))];exact ho

theorem yS {P:Program} {X:Nat->Prop} {ρ:Nat->Hd} {m:Mem} {L:Nat->Option MObj} {w:World} (h:Hp X ρ m L w) {tys:Array TypeId} {ty T:TypeId} (hT:ATy P tys T) {i:TI} (ht:TOK P T i) {k:Kd} (hk:i.ek=some k) (hb:1<=i.eb)
  {key d:Nat} {xs:List k.T} (hkey:L key=some (.rows k xs)) (hfr:∀k o,L k=some o->k≠d->o.has d=false) {v:Value} {ys:List k.T} {cs:List Value} (hsrc:Src P m k w ys v cs)
  (hbound:((xs.length:Int)+(ys.length:Int))*(i.eb:Int)<=70368744177664) :
  ja P X ρ m L w d (do pure (.value (← Builtin.append_ tys ty #[(ρ key).hdr,v]))) (.sl d) [(d,some (.rows k (xs++ys))),(key,none)] true:=ZI h hkey hfr (uE hT ht hk hb hsrc) hbound
theorem ZH {P:Program} {X:Nat->Prop} {ρ:Nat->Hd} {m:Mem} {L:Nat->Option MObj} {w:World} (h:Hp X ρ m L w) {tys:Array TypeId} {ty T t:TypeId} (h0:tys[0]? = some T) (h1:tys[1]? = some t) {q:IntKind} (hq:P.underlying t=some (.int q)) {i:TI} (ht:TOK P T i) {k:Kd} (hk:i.ek=some k) (hb:1<=i.eb) (hes:1<=i.esz)
  {key d:Nat} {xs:List k.T} (hkey:L key=some (.rows k xs)) (hfr:∀k o,L k=some o->k≠d->o.has d=false) {kn:IntKind} {n:Int} (hn0:0<=n)
  (hbound:((xs.length:Int)+n)*(i.eb:Int)<=70368744177664) :
  ja P X ρ m L w d (do pure (.value (← Builtin.append_ tys ty #[(ρ key).hdr,.int kn n]))) (.sl d) [(d,some (.rows k (xs++List.replicate n.toNat k.df))),(key,none)] true:=by
 have h2:n*(i.eb:Int)<=70368744177664:=by
  have:n*(i.eb:Int)<=((xs.length:Int)+n)*(i.eb:Int):=Int.mul_le_mul_of_nonneg_right (by omega) (by omega)
  omega
 obtain ⟨cs,hap⟩:=UA (w:=w) (ty:=ty) (kn:=kn) h0 h1 hq ht hk hb hes hn0 h2 m
 refine ZI h hkey hfr hap ?_
 rw[List.length_replicate,Int.toNat_of_nonneg hn0];exact hbound

theorem ZX {P:Program} {X:Nat->Prop} {ρ:Nat->Hd} {m:Mem} {L:Nat->Option MObj} {w:World} (h:Hp X ρ m L w) {tys:Array TypeId} {ty T:TypeId} (hT:ATy P tys T) {i:TI} (ht:TOK P T i) {k:Kd} (hk:i.ek=some k) (hb:1<=i.eb) {e:Nat} (hie:i.elem=e)
  {key d:Nat} {xs:List k.T} (hkey:L key=some (.brw e k xs)) (hfr:∀k o,L k=some o->k≠d->o.has d=false) {v:Value} {ys:List k.T} {cs:List Value} (hsrc:Src P m k w ys v cs)
  (hbound:((xs.length:Int)+(ys.length:Int))*(i.eb:Int)<=70368744177664) :
  ja P X ρ m L w d (do pure (.value (← Builtin.append_ tys ty #[(ρ key).hdr,v]))) (.sl d) [(d,some (.brw e k (xs++ys))),(key,none)] true:=by
 obtain ⟨g0,g1,g2⟩:=h.obj _ _ hkey
 have hel1:∀v∈cs,ocell v=true:=by
  intro u hu
  obtain ⟨q,hq,rfl⟩:=List.getElem_of_mem hu
  have hpos:0<k.n:=by
   rcases Nat.eq_zero_or_pos k.n with e|e
   ·have:=hsrc.len;rw[e,Nat.mul_zero] at this;omega
   ·exact e
  have hqn:q/k.n<ys.length:=by rw[Nat.div_lt_iff_lt_mul hpos];rw[<-hsrc.len];exact hq
  have hR:=hsrc.el (q/k.n) hqn
  refine Wu k _ _ hR _ ?_
  have hdm:=Nat.div_add_mod q k.n
  have hmod:=Nat.mod_lt q hpos
  have e:(cs.drop (q/k.n*k.n)).take k.n=(cs.drop (q/k.n*k.n)).take k.n:=rfl
  rw[List.mem_take_iff_getElem]
  refine ⟨q%k.n,?_,?_⟩
  ·rw[List.length_drop,Nat.lt_min];rw[Nat.mul_comm] at hdm;exact ⟨hmod,by omega⟩
  ·rw[List.getElem_drop];congr 1;rw[Nat.mul_comm];exact hdm
 -- the old key goes
 have hL:∀(U:List (Nat×Option MObj)) k' o,qQ ([(d,some (.brw e k (xs++ys))),(key,none)]) L k'=some o->qQ [(d,some (.brw e k (xs++ys)))] L k'=some o:=by
  intro U k' o ho
  simp only[qQ] at ho ⊢
  split
  ·rename_i e;rw[if_pos e] at ho;exact ho
  ·rename_i e;rw[if_neg e] at ho
   split at ho
   ·cases ho
   ·exact ho
 have drop:∀s mv,ja P X ρ m L w d s mv [(d,some (.brw e k (xs++ys)))] true->ja P X ρ m L w d s mv [(d,some (.brw e k (xs++ys))),(key,none)] true:=by
  rintro s mv ⟨nx,w',ρ',h1,h2,h3,h4⟩
  exact ⟨nx,w',ρ',h1,h2,h3.weak (fun k' o ho=>hL [] k' o ho),h4⟩
 -- what stands in the old row
 have grow:∀(base:Option Addr) (sCap:Nat) (os:List Value),(ρ key).hdr=.slice base xs.length sCap->sCap<xs.length+ys.length->os.length=xs.length*k.n->(∀(q:Nat) (hq:q<xs.length),k.R m xs[q] ((os.drop (q*k.n)).take k.n)) →
   (∀n,(Builtin.firstCells k.n xs.length (.slice base xs.length sCap)).run P { w with drawn:=n }=.ok os.toArray { w with drawn:=n }) →
   ja P X ρ m L w d (do pure (.value (← Builtin.append_ tys ty #[(ρ key).hdr,v]))) (.sl d) [(d,some (.brw e k (xs++ys))),(key,none)] true:=by
  intro base sCap os hh hgt hol hoe hor
  rw[hh]
  have hbn:(xs.length+ys.length)*i.eb<=70368744177664:=by
   have:(((xs.length+ys.length)*i.eb:Nat):Int)<=70368744177664:=by push_cast;exact hbound
   omega
  obtain ⟨w',cap,rest,r1,r2,r3,r4⟩:=Wi (ty:=ty) hT ht hk hb hsrc hgt hbn hor
  refine drop _ _ (Jg h hfr (hie▸r2) (k:=k) (xs:=xs++ys) (cap:=cap) (by simpa using r3) ?_ (fun q hq=>?_) _ ?_)
  ·simp only[List.length_append,hol,hsrc.len,r4]
   rw[<-Nat.add_assoc,<-Nat.add_mul,<-Nat.add_mul];congr 1;omega
  ·have hdiv:∀a b:Nat,a<b->a*k.n+k.n<=b*k.n:=fun a b hab=>by
    have:(a+1)*k.n<=b*k.n:=Nat.mul_le_mul_right _ hab
    rw[Nat.add_mul,Nat.one_mul] at this;exact this
   rcases Nat.lt_or_ge q xs.length with hlt|hge
   ·rw[List.getElem_append_left hlt]
    have:=hdiv q xs.length hlt
    rw[List.drop_append_of_le_length (by omega),List.take_append_of_le_length (by rw[List.length_drop];omega)]
    exact hoe q hlt
   ·rw[List.getElem_append_right hge]
    have hq':q-xs.length<ys.length:=by simp at hq;omega
    have h1:=hdiv (q-xs.length) ys.length hq'
    have h2:q*k.n=xs.length*k.n+(q-xs.length)*k.n:=by rw[<-Nat.add_mul];congr 1;omega
    rw[List.drop_append,List.drop_of_length_le (by rw[hol,h2];omega),List.nil_append,hol,show q*k.n-xs.length*k.n=(q-xs.length)*k.n by omega]
    rw[List.drop_append_of_le_length (by rw[hsrc.len];omega),List.take_append_of_le_length (by rw[List.length_drop,hsrc.len];omega)]
    exact hsrc.el _ hq'
  ·rw[wc,r1];simp only[List.length_append];rfl
 rcases g2 with ⟨hn,rfl⟩|⟨hn,hcap,vs,hbk,hvl,hel⟩
 ·-- a nil one
  have hh:(ρ key).hdr=.slice none 0 0:=by unfold Hd.hdr;rw[hn];rfl
  rcases Nat.eq_zero_or_pos ys.length with e|e
  ·have hys:ys=[]:=List.eq_nil_of_length_eq_zero e
   subst hys
   have hcs:cs=[]:=List.eq_nil_of_length_eq_zero (by simpa using hsrc.len)
   have hrun:(Builtin.append_ tys ty #[(ρ key).hdr,v]).run P w=.ok (.slice none 0 0) w:=by
    rw[hh];exact vy (ty:=ty) hT ht hk (base:=none) (sLen:=0) (sCap:=0) hsrc (by simp) rfl
   refine ⟨_,w,setρ ρ d ⟨0,0,0,true,k.n⟩,by rw[wc,hrun];rfl,.inl ⟨_,rfl,by simp only[Cv,setρ_eq];rfl⟩,?_,Nx.refl X m w,fun k' hk'=>setρ_ne _ _ _ hk',fun e=>by cases e⟩
   refine Hp.weak ?_ (fun k' o ho=>hL [] k' o ho)
   rw[qT]
   refine h.turn d _ (fun _=>False) (fun k' hk'=>setρ_ne _ _ _ hk') (.inr fun k' o hk' hne=>hfr k' o hk' hne) (fun b _ _=>rfl) (Nat.le_refl _) (fun b _ hf=>hf.elim) (fun _ _ _ _ _ _ hf=>hf) (fun o ho=>?_)
   simp only[Option.some.injEq] at ho;subst ho
   refine ⟨⟨by rw[setρ_eq];rfl,by rw[setρ_eq],.inl ⟨by rw[setρ_eq],rfl⟩⟩,fun b hf=>?_⟩
   have:=hf.1;rw[setρ_eq] at this;cases this
  ·exact grow none 0 [] hh (by simp;exact e) (by simp) (fun q hq=>by simp at hq) (fun _=>rfl)
 ·have hh:(ρ key).hdr=.slice (some ⟨(ρ key).blk,0,none⟩) xs.length (ρ key).cap:=by unfold Hd.hdr;rw[hn,g0];rfl
  have hxl:xs.length*k.n<=vs.length:=by rw[hvl];exact Nat.mul_le_mul_right _ hcap
  rcases Nat.lt_or_ge (ρ key).cap (xs.length+ys.length) with hgt|hle
  ·have hs:=xd (P:=P) (m:=m) (k:=k) (w:=w) (ys:=xs) (b:=(ρ key).blk) (off:=0) (cap:=(ρ key).cap) hbk (by omega) (by simpa using hel)
   refine grow _ _ ((vs.drop 0).take (xs.length*k.n)) hh hgt hs.len hs.el hs.read
  ·-- it fits
   have hneed:(xs.length+ys.length)*k.n<=vs.length:=by rw[hvl];exact Nat.mul_le_mul_right _ hle
   rw[Nat.add_mul] at hneed
   obtain ⟨w',s1,s2⟩:=ko (P:=P) (b:=(ρ key).blk) (off:=xs.length*k.n) (T:=e) cs 0 w vs hbk (by rw[hsrc.len];omega) hel1
   have hrun:(Builtin.append_ tys ty #[(ρ key).hdr,v]).run P w=.ok (.slice (some ⟨(ρ key).blk,0,none⟩) (xs.length+ys.length) (ρ key).cap) w':=by
    rw[hh]
    refine vy (ty:=ty) hT ht hk hsrc hle ?_
    simp only
    rw[kx,Nat.zero_add];exact s1
   refine ⟨_,w',setρ ρ d ⟨(ρ key).blk,xs.length+ys.length,(ρ key).cap,false,k.n⟩,by rw[wc,hrun];rfl,.inl ⟨_,rfl,by simp only[Cv,setρ_eq];rfl⟩,?_,s2.nx (h.djX key _ _ hkey ⟨hn,rfl⟩),fun k' hk'=>setρ_ne _ _ _ hk',fun e=>by cases e⟩
   -- without the old key
   have selK:∀{q:Nat} {o:MObj},(if q=key then none else L q)=some o->L q=some o:=fun {q o} e=>by
    split at e
    ·cases e
    ·exact e
   have h':Hp X ρ m (fun q=>if q=key then none else L q) w:=h.weak (fun q o ho=>by
    split at ho
    ·cases ho
    ·exact ho)
   have h3:=h'.turn (ρ':=setρ ρ d ⟨(ρ key).blk,xs.length+ys.length,(ρ key).cap,false,k.n⟩) (w':=w') d (some (.brw e k (xs++ys))) (fun b=>b=(ρ key).blk) (fun k' hk'=>setρ_ne _ _ _ hk') (.inr fun k' o hk' hne=>by
     split at hk'
     ·cases hk'
     ·exact hfr k' o hk' hne) (fun b _ hb=>s2.un b hb) (Nat.le_of_eq s2.size.symm) (fun b _ hb=>hb▸h.djm key _ _ hkey ⟨hn,rfl⟩) (fun k' o b _ hk' hf hb=>by
     split at hk'
     ·cases hk'
     ·rename_i hne
      exact hne (h.dj k' o key _ b hk' hkey hf ⟨hn,hb⟩)) (fun o ho=>by
     simp only[Option.some.injEq] at ho;subst ho
     refine ⟨⟨by rw[setρ_eq];simp,by rw[setρ_eq],.inr ⟨by rw[setρ_eq],by rw[setρ_eq];simpa using hle,_,by rw[setρ_eq];exact s2.at_,?_,?_⟩⟩,fun b hf=>?_⟩
     ·have e1:=hneed
      have e2:=hxl
      rw[hvl] at e1 e2
      rw[setρ_eq];simp only[List.length_append,List.length_take,List.length_drop,hsrc.len,hvl];omega
     ·intro q hq
      have hlt0:(vs.take (xs.length*k.n+0)).length=xs.length*k.n:=by rw[List.length_take];omega
      have hdiv:∀a b:Nat,a<b->a*k.n+k.n<=b*k.n:=fun a b hab=>by
       have:(a+1)*k.n<=b*k.n:=Nat.mul_le_mul_right _ hab
       rw[Nat.add_mul,Nat.one_mul] at this;exact this
      rcases Nat.lt_or_ge q xs.length with hlt|hge
      ·rw[List.getElem_append_left hlt]
       have:=hdiv q xs.length hlt
       rw[List.drop_append_of_le_length (by omega),List.take_append_of_le_length (by rw[List.length_drop];omega),List.drop_take,List.take_take,Nat.min_eq_left (by omega)]
       exact hel q hlt
      ·rw[List.getElem_append_right hge]
       have hq':q-xs.length<ys.length:=by simp at hq;omega
       have h1:=hdiv (q-xs.length) ys.length hq'
       have h2:q*k.n=xs.length*k.n+(q-xs.length)*k.n:=by rw[<-Nat.add_mul];congr 1;omega
       rw[List.drop_append,List.drop_of_length_le (by rw[hlt0,h2];omega),List.nil_append,hlt0,show q*k.n-xs.length*k.n=(q-xs.length)*k.n by omega]
       rw[List.drop_append_of_le_length (by rw[hsrc.len];omega),List.take_append_of_le_length (by rw[List.length_drop,hsrc.len];omega)]
       exact hsrc.el _ hq'
     ·have hb:b=(ρ key).blk:=by have:=hf.2;rw[setρ_eq] at this;exact this
      subst hb
      refine ⟨h.djm key _ _ hkey ⟨hn,rfl⟩,h.djX key _ _ hkey ⟨hn,rfl⟩,fun k' o' _ hk' hf'=>?_⟩
      split at hk'
      ·cases hk'
      ·rename_i hne
       exact hne (h.dj k' o' key _ _ hk' hkey hf' ⟨hn,rfl⟩)) (hDi:=fun k' o b _ hk' hi hb=>(h.inn k' o b (selK hk') hi).2.2.1 key _ hkey ⟨hn,hb⟩) (hni:=fun o _ b hf k' o' _ hk' hi=>(h.inn k' o' b (selK hk') hi).2.2.1 key _ hkey ⟨hn,by have:=hf.2;rw[setρ_eq] at this;exact this⟩)
   refine h3.weak (fun k' o ho=>?_)
   simp only[qQ] at ho
   split at ho
   ·rename_i e;rw[if_pos e];exact ho
   ·rename_i e;rw[if_neg e]
    split at ho
    ·cases ho
    ·rename_i e2
     rw[if_neg (by intro e3;exact e2 (by rw[e3];exact beq_self_eq_true key))];exact ho

theorem vQ {P:Program} {X:Nat->Prop} {ρ:Nat->Hd} {m:Mem} {L:Nat->Option MObj} {w:World} (h:Hp X ρ m L w) {tys:Array TypeId} {ty T:TypeId} (hT:ATy P tys T) {i:TI} (ht:TOK P T i) {k:Kd} (hk:i.ek=some k) (hb:1<=i.eb)
  {d:Nat} (hfr:∀k o,L k=some o->k≠d->o.has d=false) {v:Value} {ys:List k.T} {cs:List Value} (hsrc:Src P m k w ys v cs) (hbound:(ys.length:Int)*(i.eb:Int)<=70368744177664) :
  ja P X ρ m L w d (do pure (.value (← Builtin.append_ tys ty #[.slice none 0 0,v]))) (.sl d) [(d,some (.rows k ys))] true:=by
 have h1:Hp X (setρ ρ d ⟨0,0,0,true,k.n⟩) m (fun q=>if d==q then some (.rows k ([]:List k.T)) else L q) w:=by
  refine h.turn d _ (fun _=>False) (fun k' hk'=>setρ_ne _ _ _ hk') (.inr fun k' o hk' hne=>hfr k' o hk' hne) (fun b _ _=>rfl) (Nat.le_refl _) (fun b _ hf=>hf.elim) (fun _ _ _ _ _ _ hf=>hf) (fun o ho=>?_)
  simp only[Option.some.injEq] at ho;subst ho
  refine ⟨⟨by rw[setρ_eq];rfl,by rw[setρ_eq],.inl ⟨by rw[setρ_eq],rfl⟩⟩,fun b hf=>?_⟩
  have:=hf.1;rw[setρ_eq] at this;cases this
 have h2:=yS (P:=P) (ty:=ty) h1 hT ht hk hb (key:=d) (d:=d) (xs:=[]) (by simp) (fun k' o hk' hne=>by
  rw[if_neg (by intro e;exact hne (by have:=(beq_iff_eq (a:=d) (b:=k')).1 e;exact this.symm))] at hk'
  exact hfr k' o hk' hne) hsrc (by simpa using hbound)
 rw[setρ_eq] at h2
 obtain ⟨nx,w',ρ',r1,r2,r3,r4,r5,r6⟩:=h2
 refine ⟨nx,w',ρ',r1,r2,r3.weak (fun q o ho=>?_),r4,fun q hq=>(r5 q hq).trans (setρ_ne _ _ _ hq),fun e=>by cases e⟩
 simp only[qQ] at ho ⊢
 split at ho
 ·rename_i e;rw[if_pos e];simpa using ho
 ·rename_i e;rw[if_neg e,if_neg e,if_neg e];exact ho

def RL (m:Mem) (k:Kd) (xs:List k.T) (vs:List Value):Prop:=∀(i:Nat) (h:i<xs.length),k.R m xs[i] ((vs.drop (i*k.n)).take k.n)
theorem RL.app {m:Mem} {k:Kd} {xs ys:List k.T} {a b:List Value} (h:RL m k xs a) (hl:a.length=xs.length*k.n) (h':RL m k ys b):RL m k (xs++ys) (a++b):=by
 intro i hi
 rcases Nat.lt_or_ge i xs.length with hlt|hge
 ·have hle:(i+1)*k.n<=xs.length*k.n:=Nat.mul_le_mul_right _ hlt
  rw[Nat.add_mul,Nat.one_mul] at hle
  rw[List.getElem_append_left hlt,List.drop_append_of_le_length (by omega),List.take_append_of_le_length (by simp;omega)]
  exact h i hlt
 ·have hi':i-xs.length<ys.length:=by rw[List.length_append] at hi;omega
  have hle:xs.length*k.n<=i*k.n:=Nat.mul_le_mul_right _ hge
  have e:(i-xs.length)*k.n=i*k.n-xs.length*k.n:=Nat.sub_mul _ _ _
  rw[List.getElem_append_right hge,List.drop_append,List.drop_of_length_le (by omega),List.nil_append,hl,<-e]
  exact h' _ hi'
theorem RL.take {m:Mem} {k:Kd} {xs:List k.T} {a:List Value} (h:RL m k xs a) (n:Nat):RL m k (xs.take n) (a.take (n*k.n)):=by
 intro i hi
 have hi':i<n/\i<xs.length:=by rw[List.length_take] at hi;omega
 have hle:(i+1)*k.n<=n*k.n:=Nat.mul_le_mul_right _ hi'.1
 rw[Nat.add_mul,Nat.one_mul] at hle
 rw[List.getElem_take,List.drop_take,List.take_take,Nat.min_eq_left (by omega)]
 exact h i hi'.2
theorem RL.drop {m:Mem} {k:Kd} {xs:List k.T} {a:List Value} (h:RL m k xs a) (n:Nat):RL m k (xs.drop n) (a.drop (n*k.n)):=by
 intro i hi
 rw[List.length_drop] at hi
 rw[List.getElem_drop,List.drop_drop,<-Nat.add_mul]
 exact h (n+i) (by omega)
theorem Wb {m:Mem} {k:Kd} {xs:List k.T} {cs:List Value} (hr:RL m k xs cs) (hl:cs.length=xs.length*k.n):∀u∈cs,ocell u=true:=by
 intro u hu
 obtain ⟨q,hq,rfl⟩:=List.getElem_of_mem hu
 have hpos:0<k.n:=by
  rcases Nat.eq_zero_or_pos k.n with e|e
  ·rw[e,Nat.mul_zero] at hl;omega
  ·exact e
 have hqn:q/k.n<xs.length:=by rw[Nat.div_lt_iff_lt_mul hpos];rw[<-hl];exact hq
 have hR:=hr (q/k.n) hqn
 refine Wu k _ _ hR _ ?_
 have hdm:=Nat.div_add_mod q k.n
 have hmod:=Nat.mod_lt q hpos
 rw[List.mem_take_iff_getElem]
 refine ⟨q%k.n,?_,?_⟩
 ·rw[List.length_drop,Nat.lt_min];rw[Nat.mul_comm] at hdm;exact ⟨hmod,by omega⟩
 ·rw[List.getElem_drop];congr 1;rw[Nat.mul_comm];exact hdm

theorem WB {P:Program} {m:Mem} {k:Kd} {w:World} {ys:List k.T} {b off:Nat} {vs:List Value} {T:TypeId} {fr:Nat×Nat} (h:w.heap[b]? = some (.cells vs.toArray T fr)) (hl:off+ys.length*k.n<=vs.length)
  (he:∀(i:Nat) (h:i<ys.length),k.R m ys[i] ((vs.drop (off+i*k.n)).take k.n)) (q:Nat) (hq:q<=ys.length) (c d:Nat) :
  ∃cs:List Value,(Builtin.firstCells k.n q (.slice (some ⟨b,off,none⟩) c d)).run P w=.ok cs.toArray w/\cs.length=q*k.n/\RL m k (ys.take q) cs:=by
 have hle:q*k.n<=ys.length*k.n:=Nat.mul_le_mul_right _ hq
 have hlen:(ys.take q).length=q:=by rw[List.length_take];omega
 have:=xd (P:=P) (m:=m) (k:=k) (w:=w) (ys:=ys.take q) (b:=b) (off:=off) (cap:=d) (vs:=vs) (T:=T) (fr:=fr) h (by rw[hlen];omega) (fun i hi=>by
  rw[hlen] at hi
  rw[List.getElem_take];exact he i (by omega))
 rw[hlen] at this
 exact ⟨_,by have:=this.read w.drawn;rw[hlen] at this;exact this,by have:=this.len;rw[hlen] at this;exact this,this.el⟩

theorem uu {P:Program} {L:List (Nat×Option MObj)} {k:Kd} {x:MV} {ys:List k.T} (h:JV L k x=some ys) {ρ:Nat->Hd} {m:Mem} {w:World} (hO:∀k o,ww L k=some o->osat ρ m w k o) (hM:∀b o,m b=some o->w.heap[b]? = some o)
  {v:Value} (hv:Cv ρ m x v) (q:Nat) (hq:q<=ys.length) :
  (∃a c,v=.slice a ys.length c)/\∃cs:List Value,(Builtin.firstCells k.n q v).run P w=.ok cs.toArray w/\cs.length=q*k.n/\RL m k (ys.take q) cs:=by
 have nilsrc:∀(a:Option Addr),ys=[]->(∃a' c,(Value.slice a 0 0)=.slice a' ys.length c)/\∃cs:List Value,(Builtin.firstCells k.n q (.slice a 0 0)).run P w=.ok cs.toArray w/\cs.length=q*k.n/\RL m k (ys.take q) cs:=by
  intro a e;subst e
  have hq0:q=0:=by simpa using hq
  subst hq0
  refine ⟨⟨_,_,rfl⟩,[],?_,by simp,fun i hi=>by simp at hi⟩
  cases a with
  | none=>rfl
  | some a =>
   show (loadCells a (0*k.n)).run P _=_
   rw[Nat.zero_mul];rfl
 unfold JV at h
 split at h
 ·simp only[Option.some.injEq] at h
  simp only[Cv] at hv;subst hv
  exact nilsrc _ h.symm
 ·rename_i e l
  split at h
  ·rename_i he
   subst he
   simp only[Option.some.injEq] at h;subst h
   obtain ⟨u,hu,hs⟩:=hv
   simp only[List.cons.injEq,and_true] at hu;subst hu
   rcases hs with ⟨_,rfl,rfl⟩|⟨b,off,cap,cells,T,fr,rfl,g2,g3,g4,g5⟩
   ·exact nilsrc _ rfl
   ·exact ⟨⟨_,_,rfl⟩,WB (vs:=cells.toList) (by rw[Array.toArray_toList];exact hM _ _ g3) (by simpa using g4) g5 q hq _ _⟩
  ·cases h
 ·rename_i key
  split at h
  ·rename_i e l hk
   split at h
   ·rename_i he
    subst he
    simp only[Option.some.injEq] at h;subst h
    obtain ⟨g0,g1,g2⟩:=hO _ _ hk
    simp only[Cv] at hv;subst hv
    unfold Hd.hdr
    rcases g2 with ⟨hn,rfl⟩|⟨hn,hcap,vs,T,hb,hvl,hel⟩
    ·rw[hn];exact nilsrc _ rfl
    ·have hle:l.length*e.n<=(ρ key).cap*e.n:=Nat.mul_le_mul_right _ hcap
     rw[hn,g0];exact ⟨⟨_,_,rfl⟩,WB (off:=0) hb (by omega) (by simpa using hel) q hq _ _⟩
   ·cases h
  ·cases h
 ·rename_i key c
  split at h
  ·rename_i e n l hk
   split at h
   ·rename_i he
    subst he
    split at h
    ·rename_i hc
     simp only[Option.some.injEq] at h;subst h
     obtain ⟨g0,g1,vs,T,hb,hvl,hel⟩:=hO _ _ hk
     simp only[Cv] at hv;subst hv
     rw[beq_iff_eq.1 hc,<-g1]
     exact ⟨⟨_,_,rfl⟩,WB (off:=0) hb (by rw[hvl,<-g1];omega) (by simpa using hel) q hq _ _⟩
    ·cases h
   ·cases h
  ·cases h
 ·cases h

theorem X1 {P:Program} {L:List (Nat×Option MObj)} {k:Kd} {x:MV} {ys:List k.T} {E:Prop} (h:VU L k x=some (ys,E)) (hE:E) {ρ:Nat->Hd} {m:Mem} {w:World} (hO:∀k o,ww L k=some o->osat ρ m w k o) (hM:∀b o,m b=some o->w.heap[b]? = some o)
  {v:Value} (hv:Cv ρ m x v) (q:Nat) (hq:q<=ys.length) :
  (∃a c,v=.slice a ys.length c)/\∃cs:List Value,(Builtin.firstCells k.n q v).run P w=.ok cs.toArray w/\cs.length=q*k.n/\RL m k (ys.take q) cs:=by
 unfold VU at h
 split at h
 ·rename_i key n
  split at h
  ·rename_i e l hk
   split at h
   ·rename_i he
    subst he
    simp only[Option.some.injEq,Prod.mk.injEq] at h;obtain ⟨rfl,rfl⟩:=h
    obtain ⟨g0,g1,g2⟩:=hO _ _ hk
    simp only[Cv] at hv;subst hv
    have hn:(l.take n).length=n:=by rw[List.length_take];omega
    rw[hn] at hq ⊢
    rcases g2 with ⟨_,rfl⟩|⟨_,hcap,vs,T,hb,hvl,hel⟩
    ·have hq0:q=0:=by simp at hE;omega
     subst hq0
     refine ⟨⟨_,_,rfl⟩,[],?_,by simp,fun i hi=>by simp at hi⟩
     show (loadCells _ (0*e.n)).run P _=_
     rw[Nat.zero_mul];rfl
    ·have hle:l.length*e.n<=(ρ key).cap*e.n:=Nat.mul_le_mul_right _ hcap
     have:=WB (P:=P) (k:=e) (ys:=l) (off:=0) hb (by omega) (by simpa using hel) q (by omega) n (ρ key).cap
     rw[List.take_take,Nat.min_eq_left hq]
     exact ⟨⟨_,_,rfl⟩,this⟩
   ·cases h
  ·cases h
 ·split at h
  ·rename_i ys' hys
   simp only[Option.some.injEq,Prod.mk.injEq] at h;obtain ⟨rfl,rfl⟩:=h
   exact uu hys hO hM hv q hq
  ·cases h

theorem uD {P:Program} {X:Nat->Prop} {ρ:Nat->Hd} {m:Mem} {L:Nat->Option MObj} {w:World} (h:Hp X ρ m L w) {tys:Array TypeId} {ty T:TypeId} (h0:tys[0]? = some T) {i:TI} (ht:TOK P T i) {k:Kd} (hk:i.ek=some k)
  {key lo:Nat} {s:MV} (hs:G5 s=some (key,lo)) {xs:List k.T} (hkey:L key=some (.rows k xs)) (hlo':dcond s xs.length) {dv:Value} (hdv:Cv ρ m s dv) {v:Value} {ys:List k.T}
  (hsrc:∀q,q<=ys.length->(∃a c,v=.slice a ys.length c)/\∃cs:List Value,(Builtin.firstCells k.n q v).run P w=.ok cs.toArray w/\cs.length=q*k.n/\RL m k (ys.take q) cs) (d:Nat) :
  ja P X ρ m L w d (do pure (.value (← Builtin.copy_ tys ty #[dv,v]))) (.int .i64 ((min ys.length (xs.length-lo):Nat):Int)) [(key,some (.rows k (cpy lo xs ys)))] false:=by
 obtain ⟨hslc,hkn,je,z,hje,hjb,hz,hzr⟩:=ht.ek k hk
 obtain ⟨hund,hsz⟩:=ht.slc hslc
 obtain ⟨j',hj',hjs⟩:=zW hsz
 rw[hje] at hj';cases hj'
 obtain ⟨g0,g1,g2⟩:=h.obj _ _ hkey
 have hlo:lo<=xs.length:=by
  unfold G5 at hs
  split at hs
  ·simp only[Option.some.injEq,Prod.mk.injEq] at hs;obtain ⟨rfl,rfl⟩:=hs;exact Nat.zero_le _
  ·simp only[Option.some.injEq,Prod.mk.injEq] at hs;obtain ⟨rfl,rfl⟩:=hs;exact Nat.le_of_lt hlo'
  ·cases hs
 have hq:min ys.length (xs.length-lo)<=ys.length:=Nat.min_le_left _ _
 obtain ⟨⟨a,c,rfl⟩,cs,hrd,hcl,hcr⟩:=hsrc _ hq
 -- the header that is written through
 have hshape:∃base cp,dv=.slice base (xs.length-lo) cp/\(((ρ key).nil=true/\base=none/\xs=[]/\lo=0)\/((ρ key).nil=false/\base=some ⟨(ρ key).blk,lo*k.n,none⟩)):=by
  unfold G5 at hs
  split at hs
  ·simp only[Option.some.injEq,Prod.mk.injEq] at hs;obtain ⟨rfl,rfl⟩:=hs
   simp only[Cv] at hdv;subst hdv
   unfold Hd.hdr
   rcases g2 with ⟨hn,rfl⟩|⟨hn,_⟩
   ·rw[hn];exact ⟨_,_,rfl,.inl ⟨rfl,rfl,rfl,rfl⟩⟩
   ·rw[hn,g0];exact ⟨_,_,rfl,.inr ⟨rfl,by rw[Nat.zero_mul]⟩⟩
  ·simp only[Option.some.injEq,Prod.mk.injEq] at hs;obtain ⟨rfl,rfl⟩:=hs
   simp only[Cv] at hdv;subst hdv
   rcases g2 with ⟨hn,rfl⟩|⟨hn,_⟩
   ·exact absurd hlo' (by simp[dcond])
   ·rw[g0,g1];exact ⟨_,_,rfl,.inr ⟨hn,rfl⟩⟩
  ·cases hs
 obtain ⟨base,cp,rfl,hb⟩:=hshape
 have hmin:Nat.min ys.length (xs.length-lo)=min ys.length (xs.length-lo):=rfl
 have pre:∀(w':World) (st:(match base with|some a=>storeCells a cs|none=>pure ():Sem Unit).run P w=.ok () w'),(Builtin.copy_ tys ty #[.slice base (xs.length-lo) cp,.slice a ys.length c]).run P w=.ok (goInt ((min ys.length (xs.length-lo):Nat):Int)) w':=by
  intro w' st
  unfold Builtin.copy_
  simp only[h0,List.getElem?_toArray,List.getElem?_cons_zero,List.getElem?_cons_succ]
  rw[wc,wm hund];simp only
  rw[wc,show (Builtin.lenOf (.slice a ys.length c)).run P w=.ok ys.length w from rfl];simp only
  rw[wc,wZ hje,hjs];simp only
  rw[hmin,<-hkn,wc,hrd];simp only
  cases base with
  | none =>
   simp only at st ⊢
   rw[zZ] at st;cases st;rfl
  | some a =>
   simp only at st ⊢
   rw[wc,st];rfl
 rcases hb with ⟨hn,rfl,rfl,rfl⟩|⟨hn,rfl⟩
 ·have e0:min ys.length (([]:List k.T).length-0)=0:=by simp
  refine ⟨.value (goInt ((min ys.length (([]:List k.T).length-0):Nat):Int)),w,ρ,?_,.inl ⟨_,rfl,rfl⟩,?_,Nx.refl _ _ _,fun _ _=>rfl,fun _=>rfl⟩
  ·rw[wc,pre w rfl];rfl
  ·rw[qT]
   have hc0:cpy 0 ([]:List k.T) ys=[]:=by simp[cpy]
   have:(fun q=>if key==q then some (MObj.rows k (cpy 0 ([]:List k.T) ys)) else L q)=L:=by
    funext q
    split
    ·rename_i e;rw[hc0];rw[<-beq_iff_eq.1 e];exact hkey.symm
    ·rfl
   rw[this];exact h
 ·rcases g2 with ⟨hn',_⟩|⟨_,hcap,vs,T',hbk,hvl,hel⟩
  ·rw[hn] at hn';cases hn'
  have hle:xs.length*k.n<=(ρ key).cap*k.n:=Nat.mul_le_mul_right _ hcap
  have hsum:lo+min ys.length (xs.length-lo)<=xs.length:=by omega
  have hsm:lo*k.n+min ys.length (xs.length-lo)*k.n<=xs.length*k.n:=by rw[<-Nat.add_mul];exact Nat.mul_le_mul_right _ hsum
  have hoc:∀u∈cs,ocell u=true:=Wb hcr (by rw[hcl,List.length_take,Nat.min_eq_left hq])
  obtain ⟨w',s1,s2⟩:=ko (P:=P) (b:=(ρ key).blk) (off:=lo*k.n) (T:=T') cs 0 w vs hbk (by rw[hcl];omega) hoc
  refine ⟨.value (goInt ((min ys.length (xs.length-lo):Nat):Int)),w',ρ,?_,.inl ⟨_,rfl,rfl⟩,?_,?_,fun _ _=>rfl,fun _=>rfl⟩
  ·rw[wc,pre w' s1];rfl
  ·rw[qT]
   refine h.turn key _ (fun b=>b=(ρ key).blk) (fun _ _=>rfl) (.inl rfl) (fun b _ hb=>s2.un b hb) (Nat.le_of_eq s2.size.symm) (fun b _ hb=>hb▸h.djm key _ _ hkey ⟨hn,rfl⟩) (fun k' o b hne hk' hf hb=>?_) (fun o ho'=>?_)
   ·exact hne (h.dj k' o key _ b hk' hkey hf ⟨hn,hb⟩)
   ·simp only[Option.some.injEq] at ho';subst ho'
    have hcl2:(cpy lo xs ys).length=xs.length:=by simp[cpy];omega
    have hcpy:cpy lo xs ys=xs.take lo++(ys.take (min ys.length (xs.length-lo))++xs.drop (lo+min ys.length (xs.length-lo))):=by
     unfold cpy
     rcases Nat.le_total ys.length (xs.length-lo) with e|e
     ·rw[Nat.min_eq_left e,List.take_of_length_le e,List.take_of_length_le (Nat.le_refl _)]
     ·rw[Nat.min_eq_right e,List.drop_of_length_le (by omega),List.drop_of_length_le (by omega)]
    refine ⟨⟨by rw[hcl2];exact g0,g1,.inr ⟨hn,by rw[hcl2];exact hcap,_,T',s2.at_,?_,?_⟩⟩,fun b hf=>⟨h.djm key _ _ hkey hf,h.djX key _ _ hkey hf,fun k' o' hne hk' hf'=>hne (h.dj k' o' key _ b hk' hkey hf' hf)⟩⟩
    ·simp[hcl];omega
    ·rw[hcpy,Nat.add_zero,hcl,<-Nat.add_mul]
     have el:RL m k xs vs:=hel
     have e1:(vs.take (lo*k.n)).length=(xs.take lo).length*k.n:=by rw[List.length_take,List.length_take,Nat.min_eq_left (by omega),Nat.min_eq_left hlo]
     have e2:cs.length=(ys.take (min ys.length (xs.length-lo))).length*k.n:=by rw[hcl,List.length_take,Nat.min_eq_left hq]
     exact RL.app (el.take lo) e1 (RL.app hcr e2 (el.drop _))
  ·exact s2.nx (h.djX key _ _ hkey ⟨hn,rfl⟩)

theorem ue {P:Program} {X:Nat->Prop} {ρ:Nat->Hd} {m:Mem} {L:Nat->Option MObj} {w:World} (h:Hp X ρ m L w) {tys:Array TypeId} {ty T:TypeId} (h0:tys[0]? = some T) {i:TI} (ht:TOK P T i) {k:Kd} (hk:i.ek=some k) (h1:1<=i.esz)
  {key:Nat} {xs:List k.T} (hkey:L key=some (.rows k xs)) (d:Nat) :
  ja P X ρ m L w d (do pure (.value (← Builtin.clear_ tys ty #[(ρ key).hdr]))) (.tup []) [(key,some (.rows k (List.replicate xs.length k.df)))] false:=by
 obtain ⟨hslc,hkn,je,z,hje,hjb,hz,hzr⟩:=ht.ek k hk
 obtain ⟨hund,hsz⟩:=ht.slc hslc
 obtain ⟨j',hj',hjs⟩:=zW hsz
 rw[hje] at hj';cases hj'
 have hzl:z.cells.size=i.esz:=by
  have:=Kd.R.len _ _ _ (hzr m);rw[<-hkn,<-this];simp
 obtain ⟨g0,g1,g2⟩:=h.obj _ _ hkey
 have tupv:Cv ρ m (.tup []) (.tuple #[]):=⟨[],rfl,rfl⟩
 have none_:xs=[]->(Builtin.clear_ tys ty #[(ρ key).hdr]).run P w=.ok (.tuple #[]) w->ja P X ρ m L w d (do pure (.value (← Builtin.clear_ tys ty #[(ρ key).hdr]))) (.tup []) [(key,some (.rows k (List.replicate xs.length k.df)))] false:=by
  intro e hrun
  refine ⟨.value (.tuple #[]),w,ρ,by rw[wc,hrun];rfl,.inl ⟨_,rfl,tupv⟩,?_,Nx.refl _ _ _,fun _ _=>rfl,fun _=>rfl⟩
  rw[qT]
  have:(fun q=>if key==q then some (MObj.rows k (List.replicate xs.length k.df)) else L q)=L:=by
   funext q
   split
   ·rename_i e';rw[<-beq_iff_eq.1 e',hkey,e];rfl
   ·rfl
  rw[this];exact h
 rcases g2 with ⟨hn,rfl⟩|⟨hn,hcap,vs,T',hbk,hvl,hel⟩
 ·refine none_ rfl ?_
  unfold Builtin.clear_ Hd.hdr
  rw[hn]
  simp only[h0,List.getElem?_toArray,List.getElem?_cons_zero]
  rw[wc,wm hund];rfl
 ·have hdr:(ρ key).hdr=.slice (some ⟨(ρ key).blk,0,none⟩) xs.length (ρ key).cap:=by unfold Hd.hdr;rw[hn,g0];rfl
  rcases Nat.eq_zero_or_pos xs.length with hx|hx
  ·refine none_ (List.length_eq_zero_iff.1 hx) ?_
   rw[hdr,hx]
   unfold Builtin.clear_
   simp only[h0,List.getElem?_toArray,List.getElem?_cons_zero]
   rw[wc,wm hund];rfl
  ·have hle:xs.length*k.n<=(ρ key).cap*k.n:=Nat.mul_le_mul_right _ hcap
   have hcells:(Builtin.zeroCells z.cells xs.length).toList=(List.replicate xs.length z.cells.toList).flatten:=yE z.cells (by omega) xs.length
   have hcl:((List.replicate xs.length z.cells.toList).flatten).length=xs.length*k.n:=by rw[List.length_flatten];simp[hzl,hkn]
   have hcr:RL m k (List.replicate xs.length k.df) (List.replicate xs.length z.cells.toList).flatten:=fun q hq=>by
    simp only[List.length_replicate] at hq
    rw[List.getElem_replicate];exact vO (hzr m) xs.length q hq
   have hoc:=Wb hcr (by rw[hcl,List.length_replicate])
   obtain ⟨w',s1,s2⟩:=ko (P:=P) (b:=(ρ key).blk) (off:=0) (T:=T') _ 0 w vs hbk (by rw[hcl];omega) hoc
   have hrun:(Builtin.clear_ tys ty #[(ρ key).hdr]).run P w=.ok (.tuple #[]) w':=by
    rw[hdr]
    obtain ⟨q,hq⟩:∃q,xs.length=q+1:=⟨xs.length-1,by omega⟩
    rw[hq] at hcells s1 ⊢
    unfold Builtin.clear_
    simp only[h0,List.getElem?_toArray,List.getElem?_cons_zero]
    rw[wc,wm hund];simp only
    rw[wc,qb hje hz];simp only
    rw[hcells,wc,s1];rfl
   refine ⟨.value (.tuple #[]),w',ρ,by rw[wc,hrun];rfl,.inl ⟨_,rfl,tupv⟩,?_,?_,fun _ _=>rfl,fun _=>rfl⟩
   ·rw[qT]
    refine h.turn key _ (fun b=>b=(ρ key).blk) (fun _ _=>rfl) (.inl rfl) (fun b _ hb=>s2.un b hb) (Nat.le_of_eq s2.size.symm) (fun b _ hb=>hb▸h.djm key _ _ hkey ⟨hn,rfl⟩) (fun k' o b hne hk' hf hb=>?_) (fun o ho'=>?_)
    ·exact hne (h.dj k' o key _ b hk' hkey hf ⟨hn,hb⟩)
    ·simp only[Option.some.injEq] at ho';subst ho'
     refine ⟨⟨by rw[List.length_replicate];exact g0,g1,.inr ⟨hn,by rw[List.length_replicate];exact hcap,_,T',s2.at_,?_,?_⟩⟩,fun b hf=>⟨h.djm key _ _ hkey hf,h.djX key _ _ hkey hf,fun k' o' hne hk' hf'=>hne (h.dj k' o' key _ b hk' hkey hf' hf)⟩⟩
     ·rw[Nat.add_zero,List.take_zero,List.nil_append,List.length_append,List.length_drop,hcl,Nat.zero_add];omega
     ·rw[Nat.add_zero,List.take_zero,List.nil_append]
      intro q hq
      have hq':q<xs.length:=by simpa using hq
      have hqn:(q+1)*k.n<=xs.length*k.n:=Nat.mul_le_mul_right _ hq'
      rw[Nat.add_mul,Nat.one_mul] at hqn
      rw[List.drop_append_of_le_length (by rw[hcl];omega),List.take_append_of_le_length (by rw[List.length_drop,hcl];omega)]
      exact hcr q hq
   ·exact s2.nx (h.djX key _ _ hkey ⟨hn,rfl⟩)

theorem KY {P:Program} {X:Nat->Prop} {ρ:Nat->Hd} {m:Mem} {L:Nat->Option MObj} {w:World} (h:Hp X ρ m L w) {tys:Array TypeId} {ty T:TypeId} (h0:tys[0]? = some T) {i:TI} (ht:TOK P T i) {k:Kd} (hk:i.ek=some k) (h1:1<=i.esz)
  {key lo:Nat} {xs:List k.T} (hkey:L key=some (.rows k xs)) (hlo:lo<xs.length) {v:Value} (hv:Cv ρ m (.sv key lo) v) (d:Nat) :
  ja P X ρ m L w d (do pure (.value (← Builtin.clear_ tys ty #[v]))) (.tup []) [(key,some (.rows k (xs.take lo++List.replicate (xs.length-lo) k.df)))] false:=by
 obtain ⟨hslc,hkn,je,z,hje,hjb,hz,hzr⟩:=ht.ek k hk
 obtain ⟨hund,hsz⟩:=ht.slc hslc
 have hzl:z.cells.size=i.esz:=by
  have:=Kd.R.len _ _ _ (hzr m);rw[<-hkn,<-this];simp
 obtain ⟨g0,g1,g2⟩:=h.obj _ _ hkey
 have tupv:Cv ρ m (.tup []) (.tuple #[]):=⟨[],rfl,rfl⟩
 rcases g2 with ⟨hn,rfl⟩|⟨hn,hcap,vs,T',hbk,hvl,hel⟩
 ·simp at hlo
 ·simp only[Cv] at hv;subst hv
  have hle:xs.length*k.n<=(ρ key).cap*k.n:=Nat.mul_le_mul_right _ hcap
  have hcells:(Builtin.zeroCells z.cells (xs.length-lo)).toList=(List.replicate (xs.length-lo) z.cells.toList).flatten:=yE z.cells (by omega) (xs.length-lo)
  have hcl:((List.replicate (xs.length-lo) z.cells.toList).flatten).length=(xs.length-lo)*k.n:=by rw[List.length_flatten];simp[hzl,hkn]
  have hcr:RL m k (List.replicate (xs.length-lo) k.df) (List.replicate (xs.length-lo) z.cells.toList).flatten:=fun q hq=>by
   simp only[List.length_replicate] at hq
   rw[List.getElem_replicate];exact vO (hzr m) (xs.length-lo) q hq
  have hoc:=Wb hcr (by rw[hcl,List.length_replicate])
  have hsum:lo*k.n+(xs.length-lo)*k.n=xs.length*k.n:=by rw[<-Nat.add_mul];congr 1;omega
  obtain ⟨w',s1,s2⟩:=ko (P:=P) (b:=(ρ key).blk) (off:=lo*k.n) (T:=T') _ 0 w vs hbk (by rw[hcl];omega) hoc
  have hrun:(Builtin.clear_ tys ty #[.slice (some ⟨(ρ key).blk,lo*(ρ key).sz,none⟩) ((ρ key).len-lo) ((ρ key).cap-lo)]).run P w=.ok (.tuple #[]) w':=by
   rw[g0,g1]
   obtain ⟨q,hq⟩:∃q,xs.length-lo=q+1:=⟨xs.length-lo-1,by omega⟩
   rw[hq] at hcells s1 ⊢
   unfold Builtin.clear_
   simp only[h0,List.getElem?_toArray,List.getElem?_cons_zero]
   rw[wc,wm hund];simp only
   rw[wc,qb hje hz];simp only
   rw[hcells,wc,s1];rfl
  refine ⟨.value (.tuple #[]),w',ρ,by rw[wc,hrun];rfl,.inl ⟨_,rfl,tupv⟩,?_,?_,fun _ _=>rfl,fun _=>rfl⟩
  ·rw[qT]
   refine h.turn key _ (fun b=>b=(ρ key).blk) (fun _ _=>rfl) (.inl rfl) (fun b _ hb=>s2.un b hb) (Nat.le_of_eq s2.size.symm) (fun b _ hb=>hb▸h.djm key _ _ hkey ⟨hn,rfl⟩) (fun k' o b hne hk' hf hb=>?_) (fun o ho'=>?_)
   ·exact hne (h.dj k' o key _ b hk' hkey hf ⟨hn,hb⟩)
   ·simp only[Option.some.injEq] at ho';subst ho'
    have hcl2:(xs.take lo++List.replicate (xs.length-lo) k.df).length=xs.length:=by simp;omega
    refine ⟨⟨by rw[hcl2];exact g0,g1,.inr ⟨hn,by rw[hcl2];exact hcap,_,T',s2.at_,?_,?_⟩⟩,fun b hf=>⟨h.djm key _ _ hkey hf,h.djX key _ _ hkey hf,fun k' o' hne hk' hf'=>hne (h.dj k' o' key _ b hk' hkey hf' hf)⟩⟩
    ·simp[hcl];omega
    ·rw[Nat.add_zero,hcl,hsum]
     have el:RL m k xs vs:=hel
     have e1:(vs.take (lo*k.n)).length=(xs.take lo).length*k.n:=by rw[List.length_take,List.length_take,Nat.min_eq_left (by omega),Nat.min_eq_left (by omega)]
     have e2:((List.replicate (xs.length-lo) z.cells.toList).flatten).length=(List.replicate (xs.length-lo) k.df).length*k.n:=by rw[hcl,List.length_replicate]
     have:=RL.app (el.take lo) e1 (RL.app hcr e2 (ys:=([]:List k.T)) (b:=vs.drop (xs.length*k.n)) (fun q hq=>by simp at hq))
     rwa[List.append_nil] at this
  ·exact s2.nx (h.djX key _ _ hkey ⟨hn,rfl⟩)

theorem Q0 {P:Program} {X:Nat->Prop} {ρ:Nat->Hd} {m:Mem} {L:Nat->Option MObj} {w:World} (h:Hp X ρ m L w) {T:Nat} {i:TI} (ht:TOK P T i) {key j:Nat} {pre cs post:List MV} (hk:L key=some (.foc pre cs post)) {x:MV} {v:Value}
  (hv:Cv ρ m x v) (hn:(mvcells x).length=i.size) (hs:solid x=true) (hc:(mvcells x).all cellm=true) (ho:j+i.size<=cs.length) (d:Nat) :
  ja P X ρ m L w d (do Instr.storeAt T (.pointer (some ⟨(ρ key).blk,pre.length+j,none⟩)) v;pure .skip) .nilp [(key,some (.foc pre (cs.take j++(mvcells x++cs.drop (j+i.size))) post))] false:=by
 obtain ⟨hnil,v1,v2,v3,T',hb,l1,hl,l3⟩:=h.obj _ _ hk
 have hcv:=xN hs hv
 have hlen:=CvL.length hcv
 have hvl:=CvL.length hl
 have hv1:=CvL.length l1
 obtain ⟨w',h1,h2⟩:=ju (P:=P) (off:=pre.length+j) ht hb (v:=v) (by rw[<-Array.length_toList,hlen,hn]) (by simp;omega) (yr hc hcv)
 refine ⟨.skip,w',ρ,?_,.inr ⟨rfl,rfl,rfl⟩,?_,?_,fun _ _=>rfl,fun _=>rfl⟩
 ·rw[wc,h1];rfl
 ·rw[qT]
  refine h.turn key _ (fun b=>b=(ρ key).blk) (fun _ _=>rfl) (.inl rfl) (fun b _ hb=>h2.un b hb) (Nat.le_of_eq h2.size.symm) (fun b _ hb=>hb▸h.djm key _ _ hk ⟨hnil,rfl⟩) (fun k o b hne hk' hf hb=>?_) (fun o ho'=>?_)
  ·exact hne (h.dj k o key _ b hk' hk hf ⟨hnil,hb⟩)
  ·simp only[Option.some.injEq] at ho';subst ho'
   refine ⟨⟨hnil,v1,v2.take j++(v.cells.toList++v2.drop (j+i.size)),v3,T',?_,l1,CvL.append (CvL.take j hl) (CvL.append hcv (CvL.drop _ hl)),l3⟩,fun b hf=>⟨h.djm key _ _ hk hf,h.djX key _ _ hk hf,fun k o' hne hk' hf'=>hne (h.dj k o' key _ b hk' hk hf' hf)⟩⟩
   rw[h2.at_]
   have e1:(v1++(v2++v3)).take (pre.length+j)=v1++v2.take j:=by
    rw[<-hv1,List.take_append,List.take_of_length_le (by omega),show v1.length+j-v1.length=j by omega,List.take_append_of_le_length (by omega)]
   have e2:(v1++(v2++v3)).drop (pre.length+j+i.size)=v2.drop (j+i.size)++v3:=by
    rw[<-hv1,Nat.add_assoc,List.drop_append,List.drop_of_length_le (by omega),List.nil_append,show v1.length+(j+i.size)-v1.length=j+i.size by omega,List.drop_append_of_le_length (by omega)]
   rw[e1,e2];simp
 ·exact h2.nx (h.djX key _ _ hk ⟨hnil,rfl⟩)

theorem Qx {P:Program} {X:Nat->Prop} {ρ:Nat->Hd} {m:Mem} {L:Nat->Option MObj} {w:World} (h:Hp X ρ m L w) {T:Nat} {i:TI} (ht:TOK P T i) {key T0:Nat} {o:Option Nat} (hk:L key=some (.bld T0 o)) {q:Nat} {v:Value}
  (hv:Cv ρ m (.sl q) v) (hn:i.size=1) (d:Nat) :
  ja P X ρ m L w d (do Instr.storeAt T (.pointer (some ⟨(ρ key).blk,1,none⟩)) v;pure .skip) .nilp [(key,some (.bld T0 (some q)))] false:=by
 obtain ⟨hnil,p,hb,hp⟩:=h.obj _ _ hk
 have hcv:=xN (x:=.sl q) rfl hv
 have hlen:v.cells.toList.length=1:=CvL.length hcv
 obtain ⟨w',h1,h2⟩:=ju (P:=P) (off:=1) ht hb (v:=v) (by rw[<-Array.length_toList,hlen,hn]) (by simp[hn]) (yr (by rfl) hcv)
 refine ⟨.skip,w',ρ,?_,.inr ⟨rfl,rfl,rfl⟩,?_,?_,fun _ _=>rfl,fun _=>rfl⟩
 ·rw[wc,h1];rfl
 ·rw[qT]
  refine h.turn key _ (fun b=>b=(ρ key).blk) (fun _ _=>rfl) (.inl rfl) (fun b _ hb=>h2.un b hb) (Nat.le_of_eq h2.size.symm) (fun b _ hb=>hb▸h.djm key _ _ hk ⟨hnil,rfl⟩) (fun k o b hne hk' hf hb=>?_) (fun o ho'=>?_)
  ·exact hne (h.dj k o key _ b hk' hk hf ⟨hnil,hb⟩)
  ·simp only[Option.some.injEq] at ho';subst ho'
   refine ⟨⟨hnil,p,?_,hp⟩,fun b hf=>⟨h.djm key _ _ hk hf,h.djX key _ _ hk hf,fun k o' hne hk' hf'=>hne (h.dj k o' key _ b hk' hk hf' hf)⟩⟩
   obtain ⟨u,us,e1,c1,e2⟩:=hcv
   simp only[CvL] at e2;subst e2
   simp only[Cv] at c1;subst c1
   have:=h2.at_
   rw[e1] at this
   rw[this,hn];rfl
 ·exact h2.nx (h.djX key _ _ hk ⟨hnil,rfl⟩)
end
section

theorem gk {v:Value}:∀n:Nat,(List.replicate n [v]).flatten=List.replicate n v
 | 0=>rfl
 | n+1=>by rw[List.replicate_succ,List.flatten_cons,gk n];rfl

theorem YQ {P:Program} {X:Nat->Prop} {ρ:Nat->Hd} {m:Mem} {L:Nat->Option MObj} {w:World} (h:Hp X ρ m L w) {T:Nat} {i ie:TI} (ht:TOK P T i) {e:Kd} (hk:i.ek=some (.slice e)) (hte:TOK P i.elem ie) (hze:ie.zero=[.nils]) {d:Nat} (hfr:∀k o,L k=some o->k≠d->o.has d=false)
  {n c:Int} (h0:0<=n) (hnc:n<=c) (hc:c*(i.eb:Int)<=140737488355328) (hb:1<=i.eb) (h1:1<=i.esz) (kn kc:IntKind) :
  ja P X ρ m L w d (do pure (.value (← Instr.makeSlice T (.int kn n) (.int kc c)))) (.sl d) [(d,some (.rr true e (List.replicate n.toNat []) none))] true:=by
 obtain ⟨je,z,w',hje,hz,hzr,hzl,hkn,hrun,n2⟩:=vR (m:=m) w ht hk h0 hnc hc hb h1 kn kc
 obtain ⟨je',z',hj',_,_,hz',hzc⟩:=hte.info
 rw[hje] at hj';cases hj'
 rw[hz] at hz';cases hz'
 have hzv:z.cells.toList=[.slice none 0 0]:=by
  have:=hzc ρ m
  rw[hze] at this
  obtain ⟨v,us,e1,e2,e3⟩:=this
  simp only[Cv] at e2;simp only[CvL] at e3
  rw[e1,e2,e3]
 rw[hzv,gk] at n2
 refine ⟨_,w',setρ ρ d ⟨w.heap.size,n.toNat,c.toNat,false,1⟩,by rw[wc,hrun];rfl,.inl ⟨_,rfl,by simp only[Cv,setρ_eq];rfl⟩,?_,?_,fun k hk=>setρ_ne _ _ _ hk,fun e=>by cases e⟩
 ·have hsz:w'.heap.size=w.heap.size+1:=by rw[n2.heap,Array.size_push]
  have hun:∀b,b<w.heap.size->w'.heap[b]? = w.heap[b]?:=fun b hb=>by rw[n2.heap,Array.getElem?_push_lt hb];rw[Array.getElem?_eq_getElem hb]
  have hat:w'.heap[w.heap.size]? = some (.cells (List.toArray (List.replicate c.toNat (.slice none 0 0))) i.elem (0,0)):=by rw[n2.heap];simp
  have hnil:∀(q:Nat) (b l c':Nat),(List.replicate c.toNat (Value.slice none 0 0))[q]? = some (.slice (some ⟨b,0,none⟩) l c')->False:=fun q b l c' hq=>by
   rw[List.getElem?_replicate] at hq
   split at hq
   ·simp at hq
   ·cases hq
  rw[qT]
  refine h.turnR d _ (fun b=>b=w.heap.size) (fun k hk=>by simp[setρ,hk]) (.inr fun k o' hk hne=>hfr k o' hk hne) (fun b hlt _=>hun b hlt) (by omega) (fun b hlt e=>by omega) (fun k o' b _ hk hf e=>?_) (fun k o' b _ hk hi e=>?_) (fun o' ho'=>?_)
  ·have:=xy h hk hf;omega
  ·have:=xU h hk hi;omega
  ·simp only[Option.some.injEq] at ho';subst ho'
   refine ⟨⟨by rw[setρ_eq];simp,by rw[setρ_eq],.inr ⟨by rw[setρ_eq],by rw[setρ_eq];simp;omega,_,i.elem,by rw[setρ_eq];exact hat,by rw[setρ_eq];simp,fun q hq _=>?_,(fun j x hj=>by cases hj),fun _ q q' b l c1 l' c1' _ _ _ _ hq _=>(hnil _ _ _ _ hq).elim⟩⟩,fun b hf=>?_,fun b hi=>?_⟩
   ·simp only[List.length_replicate] at hq
    refine ⟨.slice none 0 0,by rw[List.getElem?_replicate,if_pos (by omega)],.inl ⟨rfl,by simp⟩⟩
   ·have hbs:b=w.heap.size:=by have:=hf.2;simp[setρ] at this;omega
    subst hbs
    refine ⟨?_,fun hX=>?_,fun k o' _ hk=>⟨fun hf'=>?_,fun hi'=>?_⟩⟩
    ·cases hm:m w.heap.size with
     | none=>rfl
     | some q=>have:=WG h hm;omega
    ·have:=h.lt _ hX;omega
    ·have:=xy h hk hf';omega
    ·have:=xU h hk hi';omega
   ·obtain ⟨_,_,vs,T',q,l,c',g1,_,_,g2⟩:=hi
    rw[setρ_eq,hat] at g1
    simp only[Option.some.injEq,Obj.cells.injEq] at g1
    have e0:List.replicate c.toNat (Value.slice none 0 0)=vs:=by simpa using congrArg Array.toList g1.1
    rw[<-e0] at g2
    exact (hnil _ _ _ _ g2).elim
 ·have hun:∀b,b<w.heap.size->w'.heap[b]? = w.heap[b]?:=fun b hb=>by rw[n2.heap,Array.getElem?_push_lt hb];rw[Array.getElem?_eq_getElem hb]
  exact ⟨Mle.refl m,fun _ _=>rfl,fun b hX=>hun b (h.lt b hX),by rw[n2.heap];simp,n2.os,n2.out,n2.tape⟩

def Mn (v:Value):Hd:=match v with
  | .slice (some ⟨b,_,_⟩) l c=>⟨b,l,c,false,0⟩
  | _=>⟨0,0,0,true,0⟩

theorem GO {P:Program} {X:Nat->Prop} {ρ:Nat->Hd} {m:Mem} {L:Nat->Option MObj} {w:World} (h:Hp X ρ m L w) {T:Nat} {i:TI} (ht:TOK P T i) (h1:i.size=1) (h2:i.agg=false) {key d j:Nat} {e:Kd} {xss:List (List e.T)} (hk:L key=some (.rr true e xss none)) (hj:j<xss.length) (hd:d≠key)
  (hfr:∀k o,L k=some o->k≠d->o.has d=false) :
  ja P X ρ m L w d (do pure (.value (← Instr.loadAt T (.pointer (some ⟨(ρ key).blk,j*(ρ key).sz+0,none⟩))))) (.sl d) [(d,some (.rows e (xss.getD j []))),(key,some (.rr true e xss (some (j,.sl d))))] true:=by
 obtain ⟨g0,g1,g2⟩:=h.obj _ _ hk
 rcases g2 with ⟨_,rfl,_⟩|⟨hn,hcap,vs,T',hb,hvl,g3,g4,g5⟩
 ·simp at hj
 obtain ⟨v,hv,hr⟩:=g3 j hj (by simp[hole])
 obtain ⟨hlt,hve⟩:=List.getElem?_eq_some_iff.1 hv
 have hload:(Instr.loadAt T (.pointer (some ⟨(ρ key).blk,j*(ρ key).sz+0,none⟩))).run P w=.ok v w:=by
  rw[g1,Nat.mul_one,Nat.add_zero,jh,jb ht hb (by simp[h1];omega) (.inr (by rw[h1]))]
  rw[h1,h2]
  have e1:(vs.drop j).take 1=[v]:=by rw[List.drop_eq_getElem_cons hlt,hve];rfl
  simp only[e1];rfl
 have hget:xss.getD j []=xss[j]:=by rw[List.getD_eq_getElem?_getD,List.getElem?_eq_getElem hj];rfl
 -- the row's header
 let hh:Hd:={ Mn v with sz:=e.n }
 have hhdr:hh.hdr=v:=by
  rcases hr with ⟨rfl,_⟩|⟨b,cap,us,T'',rfl,_⟩<;>rfl
 -- the place is told apart
 have t1:Hp X (setρ ρ d hh) m (fun k=>if key==k then some (.rr true e xss (some (j,.sl d))) else if d==k then none else L k) w:=by
  have t0:Hp X (setρ ρ d hh) m (fun k=>if d==k then none else L k) w:=h.turn d none (fun _=>False) (fun k hk=>setρ_ne _ _ _ hk) (.inr fun k o hk' hne=>hfr k o hk' hne) (fun _ _ _=>rfl) (Nat.le_refl _) (fun _ _ hf=>hf.elim) (fun _ _ _ _ _ _ hf=>hf) (fun o ho=>by cases ho)
  have hk0:(fun k=>if d==k then none else L k) key=some (.rr true e xss none):=by show (if d==key then none else L key)=_;rw[if_neg (by simpa using hd)];exact hk
  have hsub:∀b,inner (setρ ρ d hh) w key (.rr true e xss (some (j,.sl d))) b->inner (setρ ρ d hh) w key (.rr true e xss none) b:=fun b ⟨p0,p1,us,T2,q,l,c,p2,p3,p4,p5⟩=>⟨p0,p1,us,T2,q,l,c,p2,p3,by simp[hole],p5⟩
  exact t0.turnR (ρ':=setρ ρ d hh) (w':=w) key (some (.rr true e xss (some (j,.sl d)))) (fun _=>False) (fun _ _=>rfl) (.inl rfl) (fun _ _ _=>rfl) (Nat.le_refl _) (fun _ _ hf=>hf.elim) (fun _ _ _ _ _ _ hf=>hf) (fun _ _ _ _ _ _ hf=>hf) (fun o ho=>by
   simp only[Option.some.injEq] at ho;subst ho
   refine ⟨?_,fun b hf=>⟨t0.djm key _ b hk0 hf,t0.djX key _ b hk0 hf,fun k' o' hne hk'=>⟨fun hf'=>hne (t0.dj k' o' key _ b hk' hk0 hf' hf),fun hi'=>(t0.inn k' o' b hk' hi').2.2.1 key _ hk0 hf⟩⟩,fun b hi=>?_⟩
   ·rw[show osat (setρ ρ d hh) m w key (.rr true e xss (some (j,.sl d)))↔_ from Iff.rfl]
    simp only[osat]
    rw[setρ_ne _ _ _ (Ne.symm hd)]
    refine ⟨g0,g1,.inr ⟨hn,hcap,vs,T',hb,hvl,fun q hq hne=>g3 q hq (by simp[hole]),fun q x hq=>?_,fun _ q q' b l c l' c' hq hq' _ _=>g5 rfl q q' b l c l' c' hq hq' (by simp[hole]) (by simp[hole])⟩⟩
    simp only[Option.some.injEq,Prod.mk.injEq] at hq
    obtain ⟨rfl,rfl⟩:=hq
    exact ⟨v,hv,by simp only[Cv,setρ_eq];exact hhdr.symm⟩
   ·obtain ⟨i1,i2,i3,i4⟩:=t0.inn key _ b hk0 (hsub b hi)
    exact ⟨i1,i2,i3 key _ hk0,fun k' o' hne hk'=>⟨i3 k' o' hk',fun hi'=>hne (i4 k' o' hk' hi').symm⟩⟩)
 refine ⟨.value v,w,setρ ρ d hh,by rw[wc,hload];rfl,.inl ⟨v,rfl,by simp only[Cv,setρ_eq];exact hhdr.symm⟩,?_,Nx.refl X m w,fun k hk=>setρ_ne _ _ _ hk,fun e=>by cases e⟩
 -- the row is one's own
 have old:∀b l c,v=.slice (some ⟨b,0,none⟩) l c->inner ρ w key (.rr true e xss none) b:=fun b l c hvb=>⟨rfl,hn,vs,T',j,l,c,hb,hj,by simp[hole],hvb▸hv⟩
 have hne1:∀b,foot (setρ ρ d hh) d b->∃l c,v=.slice (some ⟨b,0,none⟩) l c:=fun b hf=>by
  obtain ⟨f1,f2⟩:=hf
  rw[setρ_eq] at f1 f2
  rcases hr with ⟨rfl,_⟩|⟨b',cap,us,T'',rfl,_⟩
  ·cases f1
  ·have:b=b':=f2
   exact ⟨_,_,by rw[this]⟩
 have t3:=t1.turn (ρ':=setρ ρ d hh) (w':=w) d (some (.rows e (xss.getD j []))) (fun _=>False) (fun _ _=>rfl) (.inl rfl) (fun _ _ _=>rfl) (Nat.le_refl _) (fun _ _ hf=>hf.elim) (fun _ _ _ _ _ _ hf=>hf) (fun o ho=>by
   simp only[Option.some.injEq] at ho;subst ho
   refine ⟨?_,fun b hf=>?_⟩
   ·rw[hget]
    simp only[osat,setρ_eq]
    rcases hr with ⟨rfl,hx⟩|⟨b,cap,us,T'',rfl,r2,r3,r4,r5⟩
    ·rw[hx];exact ⟨rfl,rfl,.inl ⟨rfl,rfl⟩⟩
    ·exact ⟨rfl,rfl,.inr ⟨rfl,r2,us,T'',r3,r4,r5⟩⟩
   ·obtain ⟨l,c,hvb⟩:=hne1 b hf
    obtain ⟨i1,i2,i3,i4⟩:=h.inn key _ b hk (old b l c hvb)
    refine ⟨i1,i2,fun k' o' hne hk' hf'=>?_⟩
    have hf0:foot ρ k' b:=by unfold foot at hf' ⊢;rwa[setρ_ne _ _ _ hne] at hf'
    by_cases e1:key=k'
    ·subst e1;exact i3 key _ hk hf0
    ·rw[if_neg (by simpa using e1),if_neg (by simpa using fun e=>hne e.symm)] at hk'
     exact i3 k' o' hk' hf0) (hni:=fun o ho b hf k' o' hne hk' hi'=>by
   obtain ⟨l,c,hvb⟩:=hne1 b hf
   by_cases e1:key=k'
   ·subst e1
    simp only[beq_self_eq_true,if_true,Option.some.injEq] at hk';subst hk'
    obtain ⟨_,_,us,T2,q,l',c',p2,p3,p4,p5⟩:=hi'
    rw[setρ_ne _ _ _ hne,hb] at p2
    simp only[Option.some.injEq,Obj.cells.injEq] at p2
    have e0:vs=us:=by simpa using congrArg Array.toList p2.1
    subst e0
    have:=g5 rfl q j b l' c' l c p3 hj (by simp[hole]) (by simp[hole]) p5 (hvb▸hv)
    subst this
    exact p4 rfl
   ·rw[if_neg (by simpa using e1),if_neg (by simpa using fun e=>hne e.symm)] at hk'
    have hi0:inner ρ w k' o' b:=(xG (ρ:=ρ) (ρ':=setρ ρ d hh) (w:=w) (w':=w) (setρ_ne _ _ _ hne) (fun _=>rfl) o' b).1 hi'
    exact e1 ((h.inn key _ b hk (old b l c hvb)).2.2.2 k' o' hk' hi0))
 refine t3.weak fun k o hko=>?_
 simp only[qQ] at hko
 by_cases e1:d=k
 ·rw[if_pos (by simpa using e1)] at hko ⊢;exact hko
 ·rw[if_neg (by simpa using e1)] at hko ⊢
  by_cases e2:key=k
  ·rw[if_pos (by simpa using e2)] at hko ⊢;exact hko
  ·rw[if_neg (by simpa using e2)] at hko ⊢
   rw[if_neg (by simpa using e1)];exact hko

theorem X6 {vs:List Value} {j:Nat} (hj:j<vs.length) (v:Value):vs.take j++([v]++vs.drop (j+1))=vs.set j v:=by
 rw[List.set_eq_take_append_cons_drop,if_pos hj];rfl

theorem gT {P:Program} {X:Nat->Prop} {ρ:Nat->Hd} {m:Mem} {L:Nat->Option MObj} {w:World} (h:Hp X ρ m L w) {T:Nat} {i:TI} (ht:TOK P T i) (h1:i.size=1) {key q j:Nat} {e:Kd} {xss:List (List e.T)} {ho:Option (Nat×MV)} (hk:L key=some (.rr true e xss ho)) (hj:j<xss.length)
  (hho:hole ho=none\/hole ho=some j) {ys:List e.T} (hq:L q=some (.rows e ys)) (d:Nat) :
  ja P X ρ m L w d (do Instr.storeAt T (.pointer (some ⟨(ρ key).blk,j*(ρ key).sz+0,none⟩)) (ρ q).hdr;pure .skip) .nilp [(key,some (.rr true e (xss.set j ys) none)),(q,none)] false:=by
 obtain ⟨g0,g1,g2⟩:=h.obj _ _ hk
 rcases g2 with ⟨_,rfl,_⟩|⟨hn,hcap,vs,T',hb,hvl,g3,g4,g5⟩
 ·simp at hj
 have hqk:q≠key:=fun e=>by rw[e,hk] at hq;cases hq
 have hjv:j<vs.length:=by omega
 have hcells:(ρ q).hdr.cells.toList=[(ρ q).hdr]:=by unfold Hd.hdr;split<;>rfl
 obtain ⟨w',s1,s2⟩:=ju (P:=P) (off:=j) ht hb (v:=(ρ q).hdr) (by rw[<-Array.length_toList,hcells,h1];rfl) (by rw[h1];omega) (by rw[hcells];intro u hu;simp only[List.mem_singleton] at hu;subst hu;unfold Hd.hdr;split<;>rfl)
 rw[hcells,h1,X6 hjv] at s2
 have other:∀p,p≠j->hole ho≠some p:=fun p hp e=>by rcases hho with h0|h0<;>rw[h0] at e<;>cases e;exact hp rfl
 have oldI:∀p b l c,p<xss.length->p≠j->vs[p]? = some (.slice (some ⟨b,0,none⟩) l c)->inner ρ w key (.rr true e xss ho) b:=fun p b l c hp hpj hv=>⟨rfl,hn,vs,T',p,l,c,hb,hp,other p hpj,hv⟩
 have hun:∀b,b≠(ρ key).blk->w'.heap[b]? = w.heap[b]?:=s2.un
 -- the row's own block
 have hqf:∀b l c,(ρ q).hdr=.slice (some ⟨b,0,none⟩) l c->foot ρ q b:=fun b l c hv=>by
  unfold Hd.hdr at hv
  split at hv
  ·cases hv
  ·rename_i hqn
   simp only[Value.slice.injEq,Option.some.injEq,Addr.mk.injEq] at hv
   exact ⟨by simpa using hqn,hv.1.1.symm⟩
 have hqne:∀b,foot ρ q b->b≠(ρ key).blk:=fun b hf e=>hqk (h.dj q _ key _ b hq hk hf ⟨hn,e⟩)
 refine ⟨.skip,w',ρ,?_,.inr ⟨rfl,rfl,rfl⟩,?_,s2.nx (h.djX key _ _ hk ⟨hn,rfl⟩),fun _ _=>rfl,fun _=>rfl⟩
 ·rw[g1,Nat.mul_one,Nat.add_zero,wc,s1];rfl
 have selq:∀{k:Nat} {o:MObj},(if q==k then none else L k)=some o->L k=some o/\k≠q:=fun {k o} hko=>by
  split at hko
  ·cases hko
  ·rename_i e1;exact ⟨hko,fun e2=>e1 (by rw[e2];exact beq_self_eq_true q)⟩
 have t0:Hp X ρ m (fun k=>if q==k then none else L k) w:=h.weak fun k o hko=>(selq hko).1
 have t1:=t0.turnR (ρ':=ρ) (w':=w') key (some (.rr true e (xss.set j ys) none)) (fun b=>b=(ρ key).blk) (fun _ _=>rfl) (.inl rfl) (fun b _ hb=>s2.un b hb) (Nat.le_of_eq s2.size.symm) (fun b _ hb=>hb▸h.djm key _ _ hk ⟨hn,rfl⟩)
  (fun k o b hne hk' hf hb=>hne (h.dj k o key _ b (selq hk').1 hk hf ⟨hn,hb⟩)) (fun k o b hne hk' hi hb=>(h.inn k o b (selq hk').1 hi).2.2.1 key _ hk ⟨hn,hb⟩) (fun o ho'=>by
  simp only[Option.some.injEq] at ho';subst ho'
  refine ⟨⟨by rw[List.length_set];exact g0,g1,.inr ⟨hn,by rw[List.length_set];exact hcap,_,T',s2.at_,by rw[List.length_set];exact hvl,fun p hp _=>?_,(fun _ _ hx=>by cases hx),fun _ p p' b l c l' c' hp hp' _ _ hv hv'=>?_⟩⟩,fun b hf=>?_,fun b hi=>?_⟩
  ·rw[List.length_set] at hp
   by_cases e1:p=j
   ·subst e1
    refine ⟨(ρ q).hdr,by rw[List.getElem?_set_self hjv],?_⟩
    rw[List.getElem_set_self]
    obtain ⟨r0,r1,r2⟩:=h.obj _ _ hq
    rcases r2 with ⟨r2,rfl⟩|⟨r2,r3,us,T2,r4,r5,r6⟩
    ·left;unfold Hd.hdr;rw[r2];exact ⟨rfl,rfl⟩
    ·right
     refine ⟨(ρ q).blk,(ρ q).cap,us,T2,by unfold Hd.hdr;rw[r2,r0];rfl,r3,?_,r5,r6⟩
     rw[hun _ (hqne _ ⟨r2,rfl⟩)];exact r4
   ·obtain ⟨v,hv,hr⟩:=g3 p hp (other p e1)
    refine ⟨v,by rw[List.getElem?_set_ne (fun e=>e1 e.symm)];exact hv,?_⟩
    rw[List.getElem_set_ne (fun e=>e1 e.symm)]
    rcases hr with hr|⟨b,cap,us,T2,r1,r2,r3,r4,r5⟩
    ·exact .inl hr
    ·refine .inr ⟨b,cap,us,T2,r1,r2,?_,r4,r5⟩
     rw[hun b (fun hbk=>(h.inn key _ b hk (oldI p b _ _ hp e1 (r1▸hv))).2.2.1 key _ hk ⟨hn,hbk⟩)];exact r3
  ·rw[List.length_set] at hp hp'
   by_cases e1:p=j<;>by_cases e2:p'=j
   ·rw[e1,e2]
   ·subst e1
    rw[List.getElem?_set_self hjv,Option.some.injEq] at hv
    rw[List.getElem?_set_ne (fun e=>e2 e.symm)] at hv'
    exact ((h.inn key _ b hk (oldI p' b _ _ hp' e2 hv')).2.2.1 q _ hq (hqf b _ _ hv)).elim
   ·subst e2
    rw[List.getElem?_set_self hjv,Option.some.injEq] at hv'
    rw[List.getElem?_set_ne (fun e=>e1 e.symm)] at hv
    exact ((h.inn key _ b hk (oldI p b _ _ hp e1 hv)).2.2.1 q _ hq (hqf b _ _ hv')).elim
   ·rw[List.getElem?_set_ne (fun e=>e1 e.symm)] at hv
    rw[List.getElem?_set_ne (fun e=>e2 e.symm)] at hv'
    exact g5 rfl p p' b l c l' c' hp hp' (other p e1) (other p' e2) hv hv'
  ·exact ⟨h.djm key _ _ hk hf,h.djX key _ _ hk hf,fun k' o' hne hk'=>⟨fun hf'=>hne (h.dj k' o' key _ b (selq hk').1 hk hf' hf),fun hi'=>(h.inn k' o' b (selq hk').1 hi').2.2.1 key _ hk hf⟩⟩
  ·obtain ⟨_,_,us,T2,p,l,c,p2,p3,_,p5⟩:=hi
   rw[s2.at_] at p2
   simp only[Option.some.injEq,Obj.cells.injEq] at p2
   have e0:vs.set j (ρ q).hdr=us:=by simpa using congrArg Array.toList p2.1
   subst e0
   rw[List.length_set] at p3
   by_cases e1:p=j
   ·subst e1
    rw[List.getElem?_set_self hjv,Option.some.injEq] at p5
    have hf:=hqf b _ _ p5
    exact ⟨h.djm q _ _ hq hf,h.djX q _ _ hq hf,fun hf'=>hqne b hf hf'.2,fun k' o' _ hk'=>⟨fun hf'=>(selq hk').2 (h.dj k' o' q _ b (selq hk').1 hq hf' hf),fun hi'=>(h.inn k' o' b (selq hk').1 hi').2.2.1 q _ hq hf⟩⟩
   ·rw[List.getElem?_set_ne (fun e=>e1 e.symm)] at p5
    obtain ⟨i1,i2,i3,i4⟩:=h.inn key _ b hk (oldI p b _ _ p3 e1 p5)
    exact ⟨i1,i2,i3 key _ hk,fun k' o' hne hk'=>⟨i3 k' o' (selq hk').1,fun hi'=>hne (i4 k' o' (selq hk').1 hi').symm⟩⟩)
 refine t1.weak fun k o hko=>?_
 simp only[qQ] at hko
 exact hko

theorem u7 {P:Program} {X:Nat->Prop} {ρ:Nat->Hd} {m:Mem} {L:Nat->Option MObj} {w:World} (h:Hp X ρ m L w) {T:Nat} {i:TI} (ht:TOK P T i) (h1:i.size=1) {key q j:Nat} {e:Kd} {xs:List (List e.T)} (hk:L key=some (.rows (.slice e) xs)) (hj:j<xs.length) (d:Nat) :
  ja P X ρ m L w d (do Instr.storeAt T (.pointer (some ⟨(ρ key).blk,j*(ρ key).sz+0,none⟩)) (ρ q).hdr;pure .skip) .nilp [(key,some (.rr false e xs (some (j,.sl q))))] false:=by
 obtain ⟨g0,g1,g2⟩:=h.obj _ _ hk
 rcases g2 with ⟨_,rfl⟩|⟨hn,hcap,vs,T',hb,hvl,hel⟩
 ·simp at hj
 have hk1:(Kd.slice e).n=1:=rfl
 rw[hk1] at g1
 rw[hk1,Nat.mul_one] at hvl
 have hjv:j<vs.length:=by omega
 have hcells:(ρ q).hdr.cells.toList=[(ρ q).hdr]:=by unfold Hd.hdr;split<;>rfl
 obtain ⟨w',s1,s2⟩:=ju (P:=P) (off:=j) ht hb (v:=(ρ q).hdr) (by rw[<-Array.length_toList,hcells,h1];rfl) (by rw[h1];omega) (by rw[hcells];intro u hu;simp only[List.mem_singleton] at hu;subst hu;unfold Hd.hdr;split<;>rfl)
 rw[hcells,h1,X6 hjv] at s2
 refine ⟨.skip,w',ρ,?_,.inr ⟨rfl,rfl,rfl⟩,?_,s2.nx (h.djX key _ _ hk ⟨hn,rfl⟩),fun _ _=>rfl,fun _=>rfl⟩
 ·rw[g1,Nat.mul_one,Nat.add_zero,wc,s1];rfl
 rw[qT]
 refine h.turn key _ (fun b=>b=(ρ key).blk) (fun _ _=>rfl) (.inl rfl) (fun b _ hb=>s2.un b hb) (Nat.le_of_eq s2.size.symm) (fun b _ hb=>hb▸h.djm key _ _ hk ⟨hn,rfl⟩) (fun k o b hne hk' hf hb=>?_) (fun o ho'=>?_)
 ·exact hne (h.dj k o key _ b hk' hk hf ⟨hn,hb⟩)
 ·simp only[Option.some.injEq] at ho';subst ho'
  refine ⟨⟨g0,g1,.inr ⟨hn,hcap,_,T',s2.at_,by rw[List.length_set];exact hvl,fun p hp hne=>?_,fun p x hx=>?_,fun e=>by cases e⟩⟩,fun b hf=>⟨h.djm key _ _ hk hf,h.djX key _ _ hk hf,fun k o' hne hk' hf'=>hne (h.dj k o' key _ b hk' hk hf' hf)⟩⟩
  ·have e1:p≠j:=fun e=>hne (by rw[e];rfl)
   have hr:=hel p hp
   rw[hk1,Nat.mul_one] at hr
   have hpl:p<vs.length:=by omega
   rw[List.drop_eq_getElem_cons hpl] at hr
   exact ⟨vs[p],by rw[List.getElem?_set_ne (fun e=>e1 e.symm),List.getElem?_eq_getElem hpl],hr⟩
  ·simp only[Option.some.injEq,Prod.mk.injEq] at hx
   obtain ⟨rfl,rfl⟩:=hx
   exact ⟨_,List.getElem?_set_self hjv,rfl⟩

theorem QY {ρ:Nat->Hd} {m:Mem}:∀{l:List MV} {vs:List Value},l.all Kc=true->CvL ρ m l vs->∃as:List (Option Addr),vs=as.map Value.pointer
 | [],vs,_,h=>⟨[],h⟩
 | x::l,_,hp,⟨v,us,e,h1,h2⟩=>by
  simp only[List.all_cons,Bool.and_eq_true] at hp
  obtain ⟨as,ha⟩:=QY hp.2 h2
  have hv:∃a,v=Value.pointer a:=by
   have hp1:=hp.1
   unfold Kc at hp1
   split at hp1
   ·exact ⟨_,h1⟩
   ·exact ⟨_,h1⟩
   ·cases hp1
  obtain ⟨a,rfl⟩:=hv
  exact ⟨a::as,by rw[e,ha];rfl⟩
def kt:Nat->Kd
  | 0=>.unit
  | 1=>.ptr
  | n+2=>.pair .ptr (kt (n+1))
theorem yH:∀s,(kt s).n=s
 | 0=>rfl
 | 1=>rfl
 | n+2=>by
  show 1+(kt (n+1)).n=n+2
  rw[yH (n+1)];omega
theorem Kw (m:Mem):∀(s:Nat) (as:List (Option Addr)),as.length=s->∃x:(kt s).T,(kt s).R m x (as.map Value.pointer)
 | 0,as,h=>by
  have:as=[]:=List.length_eq_zero_iff.1 h
  subst this
  exact ⟨(),rfl⟩
 | 1,as,h=>by
  obtain ⟨a,rfl⟩:=List.length_eq_one_iff.1 h
  exact ⟨a,rfl⟩
 | n+2,[],h=>by simp at h
 | n+2,a::as,h=>by
  obtain ⟨x,hx⟩:=Kw m (n+1) as (by simpa using h)
  exact ⟨(a,x),[.pointer a],as.map Value.pointer,rfl,rfl,hx⟩
theorem Ql {m:Mem}:∀(s:Nat) (x:(kt s).T) (c d:List Value),(kt s).R m x c->(kt s).R m x d->c=d
 | 0,_,c,d,h,k=>by
  have h:c=[]:=h
  have k:d=[]:=k
  rw[h,k]
 | 1,x,c,d,h,k=>by
  have h:c=[.pointer x]:=h
  have k:d=[.pointer x]:=k
  rw[h,k]
 | n+2,x,c,d,⟨c1,c2,e1,h1,h2⟩,⟨d1,d2,e2,k1,k2⟩=>by
  have h1:c1=[.pointer x.1]:=h1
  have k1:d1=[.pointer x.1]:=k1
  rw[e1,e2,h1,k1,Ql (n+1) x.2 c2 d2 h2 k2]
theorem Kj (m:Mem):∀s,(kt s).R m (kt s).df (List.replicate s (.pointer none))
 | 0=>rfl
 | 1=>rfl
 | n+2=>⟨[.pointer none],List.replicate (n+1) (.pointer none),rfl,rfl,Kj m (n+1)⟩
theorem KB {ρ:Nat->Hd} {m:Mem}:∀{s:Nat} {vs:List Value},CvL ρ m (List.replicate s .nilp) vs->vs=List.replicate s (.pointer none)
 | 0,_,h=>h
 | s+1,vs,⟨v,us,e,h1,h2⟩=>by
  simp only[Cv] at h1
  rw[e,h1,KB h2];rfl
theorem XJ {P:Program} {T:Nat} {i ie:TI} (ht:TOK P T i) (hslc:i.slc=true) (hte:TOK P i.elem ie) (hze:ie.zero=List.replicate i.esz .nilp):TOK P T { i with ek:=some (kt i.esz),eb:=ie.bytes }:=by
 refine ⟨ht.info,ht.zfr,ht.und,ht.fld,ht.flen,ht.arr,ht.slc,ht.ik,fun k hk=>?_,ht.mp⟩
 have hk':kt i.esz=k:=by simpa using hk
 subst hk'
 obtain ⟨j,z,hj,_,hjb,hz,hzc⟩:=hte.info
 refine ⟨hslc,yH _,j,z,hj,hjb,hz,fun m=>?_⟩
 have:=hzc (fun _=>⟨0,0,0,false,0⟩) m
 rw[hze] at this
 rw[KB this]
 exact Kj m _
theorem Kt (m:Mem) {s:Nat} (n:Nat) {as:List (Option Addr)} (h:as.length=n*s):∃xs:List (kt s).T,xs.length=n/\∀(i:Nat) (hi:i<xs.length),(kt s).R m xs[i] (((as.map Value.pointer).drop (i*s)).take s):=by
 classical
 have ex:∀i:Fin n,∃x:(kt s).T,(kt s).R m x (((as.map Value.pointer).drop (i.1*s)).take s):=fun i=>by
  have hi:i.1*s+s<=n*s:=by
   have:=Nat.mul_le_mul_right s (show i.1+1<=n from i.2)
   rw[Nat.add_mul,Nat.one_mul] at this;exact this
  obtain ⟨x,hx⟩:=Kw m s ((as.drop (i.1*s)).take s) (by simp;omega)
  exact ⟨x,by rw[List.map_take,List.map_drop] at hx;exact hx⟩
 refine ⟨List.ofFn fun i:Fin n=>Classical.choose (ex i),by simp,fun i hi=>?_⟩
 rw[List.getElem_ofFn]
 exact Classical.choose_spec (ex ⟨i,by simpa using hi⟩)
theorem U1 {m:Mem} {s:Nat} (hs:1<=s) {xs:List (kt s).T} {as:List (Option Addr)} {vs:List Value} (ha:as.length=xs.length*s) (hl:xs.length*s<=vs.length)
  (h:∀(i:Nat) (hi:i<xs.length),(kt s).R m xs[i] ((vs.drop (i*s)).take s)) (h':∀(i:Nat) (hi:i<xs.length),(kt s).R m xs[i] (((as.map Value.pointer).drop (i*s)).take s)):vs.take as.length=as.map Value.pointer:=by
 apply List.ext_getElem
 ·simp;omega
 ·intro q h1 h2
  simp only[List.length_map] at h2
  have hi:q/s<xs.length:=Nat.div_lt_of_lt_mul (by rw[Nat.mul_comm];omega)
  have e:=Ql s _ _ _ (h (q/s) hi) (h' (q/s) hi)
  have hr:q%s<s:=Nat.mod_lt _ (by omega)
  have hq:q/s*s+q%s=q:=by rw[Nat.mul_comm];exact Nat.div_add_mod q s
  have e2:=congrArg (fun l:List Value=>l[q%s]?) e
  simp only[List.getElem?_take,if_pos hr,List.getElem?_drop,hq] at e2
  have hv:q<vs.length:=by omega
  rw[List.getElem?_eq_getElem hv,List.getElem?_eq_getElem (by simpa using h2),Option.some.injEq] at e2
  rw[List.getElem_take];exact e2
theorem Qh {P:Program} {X:Nat->Prop} {ρ:Nat->Hd} {m:Mem} {L:Nat->Option MObj} {w:World} {d:Nat} {s:Sem Next} {z:Nat} (hz:1<=z) {xs:List (kt z).T} {as:List (Option Addr)} {U:List (Nat×Option MObj)} {cs:List MV} (hr:ja P X ρ m L w d s (.sl d) ((d,some (.rows (kt z) xs))::U) true) (hne:1<=xs.length)
  (ha:as.length=xs.length*z) (hx:∀(i:Nat) (hi:i<xs.length),(kt z).R m xs[i] (((as.map Value.pointer).drop (i*z)).take z)) (hcs:CvL ρ m cs (as.map Value.pointer)) (hd:MV.hasL d cs=false):ja P X ρ m L w d s (.sl d) ((d,some (.hrow z cs))::U) true:=by
 obtain ⟨nx,w',ρ',r1,r2,r3,r4,r5,r6⟩:=hr
 refine ⟨nx,w',ρ',r1,r2,?_,r4,r5,r6⟩
 have hk:qQ ((d,some (.rows (kt z) xs))::U) L d=some (.rows (kt z) xs):=by simp[qQ]
 obtain ⟨g0,g1,g2⟩:=r3.obj _ _ hk
 rcases g2 with ⟨_,rfl⟩|⟨hn,hcap,vs,T,hb,hvl,hel⟩
 ·simp at hne
 have hl:cs.length=as.length:=by have:=CvL.length hcs;simpa using this.symm
 rw[yH] at hvl hel g1
 have hm:xs.length*z<=(ρ' d).cap*z:=Nat.mul_le_mul_right _ hcap
 have hcs':CvL ρ' m cs (as.map Value.pointer):=CvL.mono (Mle.refl m) cs _ (fun k hk=>r5 k (fun e=>by rw[e,hd] at hk;cases hk)) hcs
 have t:=r3.turn (ρ':=ρ') (w':=w') d (some (.hrow z cs)) (fun _=>False) (fun _ _=>rfl) (.inl rfl) (fun _ _ _=>rfl) (Nat.le_refl _) (fun _ _ hf=>hf.elim) (fun _ _ _ _ _ _ hf=>hf) (fun o ho=>by
  simp only[Option.some.injEq] at ho;subst ho
  refine ⟨⟨by rw[hl,g0];exact ha.symm,⟨g1,hz⟩,hn,by rw[g0];exact hcap,vs,T,hb,hvl,?_⟩,fun b hf=>⟨r3.djm d _ b hk hf,r3.djX d _ b hk hf,fun k' o' hne hk' hf'=>hne (r3.dj k' o' d _ b hk' hk hf' hf)⟩⟩
  rw[hl,U1 hz ha (by omega) hel hx];exact hcs')
 refine t.weak fun k o hko=>?_
 simp only[qQ] at hko ⊢
 by_cases e:d=k
 ·rw[if_pos (by simpa using e)] at hko ⊢;exact hko
 ·rw[if_neg (by simpa using e)] at hko ⊢
  rw[if_neg (by simpa using e)];exact hko
theorem Yw {P:Program} {X:Nat->Prop} {ρ:Nat->Hd} {m:Mem} {L:Nat->Option MObj} {w:World} (h:Hp X ρ m L w) {q z c:Nat} {ys:List MV} (hq:L q=some (.cells ys)) (hp:ys.all Kc=true) (hc:ys.length=c*z) :
  ∃(bs:List (Option Addr)) (xs:List (kt z).T) (cs:List Value),bs.length=ys.length/\xs.length=c/\(∀(i:Nat) (hi:i<xs.length),(kt z).R m xs[i] (((bs.map Value.pointer).drop (i*z)).take z))/\CvL ρ m ys (bs.map Value.pointer)/\Src P m (kt z) w xs (.slice (some ⟨(ρ q).blk,0,none⟩) c c) cs:=by
 obtain ⟨hn,vs,T,hb,hcv⟩:=h.obj _ _ hq
 obtain ⟨bs,rfl⟩:=QY hp hcv
 have hl:bs.length=ys.length:=by have:=CvL.length hcv;simpa using this
 obtain ⟨xs,hx1,hx2⟩:=Kt m (s:=z) c (by rw[hl];exact hc)
 subst hx1
 refine ⟨bs,xs,((bs.map Value.pointer).drop 0).take (xs.length*(kt z).n),hl,rfl,hx2,hcv,?_⟩
 exact xd (k:=kt z) (ys:=xs) (cap:=xs.length) hb (by rw[yH,List.length_map,hl,hc];omega) (fun i hi=>by
  rw[yH,Nat.zero_add];exact hx2 i hi)
theorem ZC {P:Program} {X:Nat->Prop} {ρ:Nat->Hd} {m:Mem} {L:Nat->Option MObj} {w:World} (h:Hp X ρ m L w) {tys:Array TypeId} {ty T:TypeId} (hT:ATy P tys T) {i ie:TI} (ht:TOK P T i) (hslc:i.slc=true) (h1:1<=i.esz) (hte:TOK P i.elem ie) (hze:ie.zero=List.replicate i.esz .nilp) (hb:1<=ie.bytes)
  {q d c:Nat} {ys:List MV} (hq:L q=some (.cells ys)) (hqd:q≠d) (hp:ys.all Kc=true) (hlc:ys.length=c*i.esz) (hne:1<=c) (hfr:∀k o,L k=some o->k≠d->o.has d=false) (hbound:(0+c)*ie.bytes<=70368744177664) :
  ja P X ρ m L w d (do pure (.value (← Builtin.append_ tys ty #[.slice none 0 0,.slice (some ⟨(ρ q).blk,0,none⟩) c c]))) (.sl d) [(d,some (.hrow i.esz ys))] true:=by
 obtain ⟨bs,xs,cs,hl,hx,hxr,hcv,hsrc⟩:=Yw (P:=P) h hq hp hlc
 subst hx
 have:=vQ (ty:=ty) h hT (XJ ht hslc hte hze) (k:=kt i.esz) rfl hb hfr hsrc (by
  show (xs.length:Int)*(ie.bytes:Int)<=_
  have h2:=Int.ofNat_le.2 hbound
  rw[Nat.zero_add,Int.natCast_mul] at h2
  exact h2)
 exact Qh h1 this hne (by rw[hl];exact hlc) hxr hcv (by have:=hfr q _ hq hqd;exact this)
theorem ZP {P:Program} {X:Nat->Prop} {ρ:Nat->Hd} {m:Mem} {L:Nat->Option MObj} {w:World} (h:Hp X ρ m L w) {tys:Array TypeId} {ty T:TypeId} (hT:ATy P tys T) {i ie:TI} (ht:TOK P T i) (hslc:i.slc=true) (h1:1<=i.esz) (hte:TOK P i.elem ie) (hze:ie.zero=List.replicate i.esz .nilp) (hb:1<=ie.bytes)
  {key q d c:Nat} {xs ys:List MV} (hkey:L key=some (.hrow i.esz xs)) (hkd:key≠d) (hpx:xs.all Kc=true) (hq:L q=some (.cells ys)) (hqd:q≠d) (hp:ys.all Kc=true) (hlc:ys.length=c*i.esz) (hne:1<=c) (hfr:∀k o,L k=some o->k≠d->o.has d=false) (hbound:(xs.length/i.esz+c)*ie.bytes<=70368744177664) :
  ja P X ρ m L w d (do pure (.value (← Builtin.append_ tys ty #[(ρ key).hdr,.slice (some ⟨(ρ q).blk,0,none⟩) c c]))) (.sl d) [(d,some (.hrow i.esz (xs++ys))),(key,none)] true:=by
 obtain ⟨bs,zs,cs,hl,hx,hxr,hcv,hsrc⟩:=Yw (P:=P) h hq hp hlc
 subst hx
 obtain ⟨g0,⟨g1,_⟩,hn,hcap,vs,T',hb',hvl,hcx⟩:=h.obj _ _ hkey
 obtain ⟨as,hav⟩:=QY hpx hcx
 have hlx:as.length=xs.length:=by have:=CvL.length hcx;rw[hav] at this;simpa using this
 obtain ⟨us,hu1,hu2⟩:=Kt m (s:=i.esz) (ρ key).len (as:=as) (by rw[hlx];exact g0.symm)
 have hdiv:xs.length/i.esz=us.length:=by rw[hu1,<-g0];exact Nat.mul_div_cancel _ (by omega)
 have hcz:(ρ key).len*i.esz<=(ρ key).cap*i.esz:=Nat.mul_le_mul_right _ hcap
 have hu3:∀(j:Nat) (hj:j<us.length),(kt i.esz).R m us[j] ((vs.drop (j*i.esz)).take i.esz):=fun j hj=>by
  have:=hu2 j hj
  rw[<-hav,List.drop_take,List.take_take] at this
  have hji:(j+1)*i.esz<=us.length*i.esz:=Nat.mul_le_mul_right _ hj
  rw[Nat.add_mul,Nat.one_mul,hu1,g0] at hji
  rw[Nat.min_eq_left (by omega)] at this
  exact this
 have t:=h.turn (ρ':=ρ) (w':=w) key (some (.rows (kt i.esz) us)) (fun _=>False) (fun _ _=>rfl) (.inl rfl) (fun _ _ _=>rfl) (Nat.le_refl _) (fun _ _ hf=>hf.elim) (fun _ _ _ _ _ _ hf=>hf) (fun o ho=>by
  simp only[Option.some.injEq] at ho;subst ho
  exact ⟨⟨by rw[hu1],by rw[g1,yH],.inr ⟨hn,by rw[hu1];exact hcap,vs,T',hb',by rw[hvl,yH],fun j hj=>by rw[yH];exact hu3 j hj⟩⟩,fun b hf=>⟨h.djm key _ b hkey hf,h.djX key _ b hkey hf,fun k' o' hne hk' hf'=>hne (h.dj k' o' key _ b hk' hkey hf' hf)⟩⟩)
 have hfr':∀k o,(if key==k then some (MObj.rows (kt i.esz) us) else L k)=some o->k≠d->o.has d=false:=fun k o hk hkd'=>by
  split at hk
  ·simp only[Option.some.injEq] at hk;subst hk;rfl
  ·exact hfr k o hk hkd'
 have:=yS (ty:=ty) t hT (XJ ht hslc hte hze) (k:=kt i.esz) rfl hb (key:=key) (d:=d) (xs:=us) (by simp) hfr' hsrc (by
  show ((us.length:Int)+(zs.length:Int))*(ie.bytes:Int)<=_
  rw[<-hdiv]
  have h2:=Int.ofNat_le.2 hbound
  rw[Int.natCast_mul,Int.natCast_add] at h2
  exact h2)
 have hb2:=Qh (cs:=xs++ys) (as:=as++bs) h1 this (by simp;omega) (by rw[List.length_append,List.length_append,Nat.add_mul,hlx,hl,hlc,hu1,g0]) (fun j hj=>by
  rw[List.map_append]
  by_cases e:j<us.length
  ·rw[List.getElem_append_left e]
   have hji:(j+1)*i.esz<=us.length*i.esz:=Nat.mul_le_mul_right _ e
   rw[Nat.add_mul,Nat.one_mul,hu1,g0,<-hlx] at hji
   rw[List.drop_append_of_le_length (by simp;omega),List.take_append_of_le_length (by simp;omega)]
   exact hu2 j e
  ·have hj':j-us.length<zs.length:=by rw[List.length_append] at hj;omega
   rw[List.getElem_append_right (by omega)]
   have hsub:j*i.esz=us.length*i.esz+(j-us.length)*i.esz:=by rw[<-Nat.add_mul];congr 1;omega
   have hul:us.length*i.esz=as.length:=by rw[hu1,g0,hlx]
   rw[List.drop_append,List.drop_of_length_le (by simp;omega),List.nil_append,List.length_map,show j*i.esz-as.length=(j-us.length)*i.esz by omega]
   exact hxr _ hj') (by
  rw[List.map_append,<-hav];exact CvL.append hcx hcv) (by
  have h2:=hfr q _ hq hqd
  have h3:=hfr key _ hkey hkd
  have app:∀a b:List MV,MV.hasL d a=false->MV.hasL d b=false->MV.hasL d (a++b)=false:=by
   intro a
   induction a with
   | nil=>intro b _ h;exact h
   | cons x a ih =>
    intro b h h'
    simp only[MV.hasL,Bool.or_eq_false_iff,List.cons_append] at h ⊢
    exact ⟨h.1,ih b h.2 h'⟩
  exact app _ _ h3 h2)
 obtain ⟨nx,w',ρ',r1,r2,r3,r4⟩:=hb2
 refine ⟨nx,w',ρ',r1,r2,r3.weak fun k o hko=>?_,r4⟩
 simp only[qQ] at hko ⊢
 split at hko
 ·rename_i e;rw[if_pos e];exact hko
 ·rename_i e;rw[if_neg e]
  split at hko
  ·cases hko
  ·rename_i e2;rw[if_neg e2,if_neg e2];exact hko
end
section

theorem GY {P:Program} {T:Nat} {i ie:TI} (ht:TOK P T i) (hslc:i.slc=true) (h1:i.esz=1) (hte:TOK P i.elem ie) (hze:ie.zero=[.nils]):TOK P T { i with ek:=some .hdr,eb:=ie.bytes }:=by
 refine ⟨ht.info,ht.zfr,ht.und,ht.fld,ht.flen,ht.arr,ht.slc,ht.ik,fun k hk=>?_,ht.mp⟩
 have hk':Kd.hdr=k:=by simpa using hk
 subst hk'
 obtain ⟨j,z,hj,_,hjb,hz,hzc⟩:=hte.info
 refine ⟨hslc,h1.symm,j,z,hj,hjb,hz,fun m=>?_⟩
 have:=hzc (fun _=>⟨0,0,0,false,0⟩) m
 rw[hze] at this
 obtain ⟨v,us,e,h2,h3⟩:=this
 simp only[Cv] at h2;simp only[CvL] at h3
 subst h2 h3
 exact e
theorem VJ {m:Mem} {as:List (Option (Nat×Nat×Nat))} {vs:List Value} (h:∀(i:Nat) (hi:i<as.length),vs[i]? = some (hval as[i])):∀(i:Nat) (hi:i<as.length),Kd.hdr.R m as[i] ((vs.drop (i*Kd.hdr.n)).take Kd.hdr.n):=by
 intro i hi
 obtain ⟨hlt,hve⟩:=List.getElem?_eq_some_iff.1 (h i hi)
 show (vs.drop (i*1)).take 1=[hval as[i]]
 rw[Nat.mul_one,List.drop_eq_getElem_cons hlt,hve];rfl
theorem VS {m:Mem} {as:List (Option (Nat×Nat×Nat))} {vs:List Value} (hl:as.length<=vs.length) (h:∀(i:Nat) (hi:i<as.length),Kd.hdr.R m as[i] ((vs.drop (i*Kd.hdr.n)).take Kd.hdr.n)):∀(i:Nat) (hi:i<as.length),vs[i]? = some (hval as[i]):=by
 intro i hi
 have h3:(vs.drop (i*1)).take 1=[hval as[i]]:=h i hi
 have hlt:i<vs.length:=by omega
 rw[Nat.mul_one,List.drop_eq_getElem_cons hlt] at h3
 simp only[List.take_succ_cons,List.take_zero,List.cons.injEq,and_true] at h3
 rw[List.getElem?_eq_getElem hlt,h3]
theorem Kl {vs:List Value}:∀n:Nat,(∀i,i<n->∃a,vs[i]? = some (hval a))->∃as:List (Option (Nat×Nat×Nat)),as.length=n/\∀(i:Nat) (hi:i<as.length),vs[i]? = some (hval as[i])
 | 0,_=>⟨[],rfl,fun i hi=>by simp at hi⟩
 | n+1,h=>by
  obtain ⟨as,hl,ha⟩:=Kl n (fun i hi=>h i (by omega))
  obtain ⟨a,hv⟩:=h n (by omega)
  refine ⟨as++[a],by simp[hl],fun i hi=>?_⟩
  by_cases e:i<as.length
  ·rw[List.getElem_append_left e];exact ha i e
  ·have:i=n:=by simp at hi;omega
   subst this
   rw[List.getElem_append_right (by omega)];simpa using hv
theorem vG {a:Option (Nat×Nat×Nat)} {b l c:Nat} (h:hval a=.slice (some ⟨b,0,none⟩) l c):a=some (b,l,c):=by
 rcases a with _|⟨b',l',c'⟩
 ·simp[hval] at h
 ·simp only[hval,Value.slice.injEq,Option.some.injEq,Addr.mk.injEq] at h
  obtain ⟨⟨rfl,_⟩,rfl,rfl⟩:=h;rfl
def hdh (h:Hd):Option (Nat×Nat×Nat):=if h.nil then none else some (h.blk,h.len,h.cap)
theorem gu (h:Hd):hval (hdh h)=h.hdr:=by
 unfold hdh Hd.hdr
 cases h.nil<;>rfl

theorem Gy {X:Nat->Prop} {ρ:Nat->Hd} {m:Mem} {L:Nat->Option MObj} {w:World} (h:Hp X ρ m L w) {key:Nat} {e:Kd} {xss:List (List e.T)} (hkey:L key=some (.rr true e xss none)) :
  ∃as:List (Option (Nat×Nat×Nat)),as.length=xss.length/\osat ρ m w key (.rows .hdr as)/\(∀(i:Nat) (hi:i<xss.length) (hi':i<as.length),rowok m w true e xss[i] (hval as[i])) ∧
   (∀(i j:Nat) (hi:i<as.length) (hj:j<as.length) (b l c l' c':Nat),as[i]=some (b,l,c)->as[j]=some (b,l',c')->i=j)/\(∀(i:Nat) (hi:i<as.length) (b l c:Nat),as[i]=some (b,l,c)->inner ρ w key (.rr true e xss none) b):=by
 obtain ⟨g0,g1,g2⟩:=h.obj _ _ hkey
 rcases g2 with ⟨hn,rfl,_⟩|⟨hn,hcap,vs,T,hb,hvl,g3,_,g5⟩
 ·exact ⟨[],rfl,⟨g0,g1,.inl ⟨hn,rfl⟩⟩,fun i hi=>by simp at hi,fun i j hi=>by simp at hi,fun i hi=>by simp at hi⟩
 ·obtain ⟨as,hl,ha⟩:=Kl (vs:=vs) xss.length (fun i hi=>by
   obtain ⟨v,hv,hr⟩:=g3 i hi (by simp[hole])
   rcases hr with ⟨rfl,_⟩|⟨b,cap,us,T',rfl,_⟩
   ·exact ⟨none,hv⟩
   ·exact ⟨some (b,_,cap),hv⟩)
  refine ⟨as,hl,⟨by rw[hl];exact g0,g1,.inr ⟨hn,by rw[hl];exact hcap,vs,T,hb,by rw[hvl];exact (Nat.mul_one _).symm,VJ ha⟩⟩,fun i hi hi'=>?_,fun i j hi hj b l c l' c' e1 e2=>?_,fun i hi b l c e1=>?_⟩
  ·obtain ⟨v,hv,hr⟩:=g3 i hi (by simp[hole])
   have:=ha i hi'
   rw[hv,Option.some.injEq] at this
   rw[<-this];exact hr
  ·have h1:=ha i hi
   have h2:=ha j hj
   rw[e1] at h1;rw[e2] at h2
   exact g5 rfl i j b l c l' c' (by omega) (by omega) (by simp[hole]) (by simp[hole]) h1 h2
  ·have h1:=ha i hi
   rw[e1] at h1
   exact ⟨rfl,hn,vs,T,i,l,c,hb,by omega,by simp[hole],h1⟩

theorem Q9 {P:Program} {X:Nat->Prop} {ρ:Nat->Hd} {m:Mem} {L:Nat->Option MObj} {w:World} (h:Hp X ρ m L w) {tys:Array TypeId} {ty T:TypeId} (hT:ATy P tys T) {i ie:TI} (ht:TOK P T i) (hslc:i.slc=true) (h1:i.esz=1) (hte:TOK P i.elem ie) (hze:ie.zero=[.nils]) (hb:1<=ie.bytes)
  {key q t d:Nat} {e:Kd} {xss:List (List e.T)} {ys:List e.T} (hkey:L key=some (.rr true e xss none)) (hlt:L t=some (.cells [.sl q])) (hq:L q=some (.rows e ys)) (hfr:∀k o,L k=some o->k≠d->o.has d=false) (hbound:((xss.length:Int)+1)*(ie.bytes:Int)<=70368744177664) :
  ja P X ρ m L w d (do pure (.value (← Builtin.append_ tys ty #[(ρ key).hdr,.slice (some ⟨(ρ t).blk,0,none⟩) 1 1]))) (.sl d) [(d,some (.rr true e (xss++[ys]) none)),(key,none),(q,none),(t,none)] true:=by
 classical
 obtain ⟨as,hl,ho,hrow,hdis,hinn⟩:=Gy h hkey
 obtain ⟨q0,q1,q2⟩:=h.obj _ _ hq
 obtain ⟨tn,tvs,tT,tb,v0,us0,rfl,tc1,tc2⟩:=h.obj _ _ hlt
 simp only[Cv] at tc1;simp only[CvL] at tc2;subst tc1 tc2
 have nkq:key≠q:=fun e'=>by rw[e',hq] at hkey;cases hkey
 have nkt:key≠t:=fun e'=>by rw[e',hlt] at hkey;cases hkey
 have nqt:q≠t:=fun e'=>by rw[e',hlt] at hq;cases hq
 let F:Nat->Prop:=fun b=>inner ρ w key (.rr true e xss none) b\/foot ρ q b
 have hFm:∀b,F b->m b=none:=fun b hF=>hF.elim (fun hi=>(h.inn key _ b hkey hi).1) (fun hf=>h.djm q _ _ hq hf)
 have hFX:∀b,F b->¬X b:=fun b hF=>hF.elim (fun hi=>(h.inn key _ b hkey hi).2.1) (fun hf=>h.djX q _ _ hq hf)
 let L1:Nat->Option MObj:=fun k=>if key==k then some (.rows .hdr as) else if q==k||t==k then none else L k
 have sel:∀k o,L1 k=some o->(k=key/\o=.rows .hdr as)\/(k≠key/\k≠q/\L k=some o):=fun k o hk=>by
  have hk:(if key==k then some (MObj.rows .hdr as) else if q==k||t==k then none else L k)=some o:=hk
  split at hk
  ·rename_i e'
   simp only[Option.some.injEq] at hk
   exact .inl ⟨(beq_iff_eq.1 e').symm,hk.symm⟩
  ·rename_i e'
   split at hk
   ·cases hk
   ·rename_i e2
    simp only[Bool.or_eq_true,beq_iff_eq,not_or] at e2
    exact .inr ⟨fun x=>e' (by rw[x];exact beq_self_eq_true key),fun x=>e2.1 x.symm,hk⟩
 have selF:∀k o,L1 k=some o->k≠q/\∃o',L k=some o':=fun k o hk=>by
  rcases sel k o hk with ⟨rfl,_⟩|⟨_,h2,h3⟩
  ·exact ⟨nkq,_,hkey⟩
  ·exact ⟨h2,_,h3⟩
 have hp1:Hp (fun b=>X b\/F b) ρ m L1 w:=by
  refine ⟨h.mem,fun k o hk=>?_,fun k o k' o' b hk hk' hf hf'=>?_,fun k o b hk hf=>?_,fun k o b hk hf=>?_,fun b hX=>?_,fun k o b hk hi=>?_⟩
  ·rcases sel k o hk with ⟨rfl,rfl⟩|⟨_,_,h3⟩
   ·exact ho
   ·exact h.obj k o h3
  ·obtain ⟨_,o1,h1⟩:=selF k o hk
   obtain ⟨_,o2,h2⟩:=selF k' o' hk'
   exact h.dj k o1 k' o2 b h1 h2 hf hf'
  ·obtain ⟨_,o1,h1⟩:=selF k o hk
   exact h.djm k o1 b h1 hf
  ·obtain ⟨n1,o1,h1⟩:=selF k o hk
   rintro (hX|hi|hf')
   ·exact h.djX k o1 b h1 hf hX
   ·exact (h.inn key _ b hkey hi).2.2.1 k o1 h1 hf
   ·exact n1 (h.dj k o1 q _ b h1 hq hf hf')
  ·rcases hX with hX|hi|hf
   ·exact h.lt b hX
   ·exact xU h hkey hi
   ·exact xy h hq hf
  ·rcases sel k o hk with ⟨rfl,rfl⟩|⟨n1,n2,h3⟩
   ·exact hi.elim
   ·obtain ⟨i1,i2,i3,i4⟩:=h.inn k o b h3 hi
    refine ⟨i1,?_,fun k' o' hk'=>?_,fun k' o' hk' hi'=>?_⟩
    ·rintro (hX|hi'|hf')
     ·exact i2 hX
     ·exact n1 (i4 key _ hkey hi')
     ·exact i3 q _ hq hf'
    ·obtain ⟨_,o1,h1⟩:=selF k' o' hk'
     exact i3 k' o1 h1
    ·rcases sel k' o' hk' with ⟨rfl,rfl⟩|⟨_,_,h4⟩
     ·exact hi'.elim
     ·exact i4 k' o' h4 hi'
 have hsrc:Src P m .hdr w [hdh (ρ q)] (.slice (some ⟨(ρ t).blk,0,none⟩) 1 1) (([(ρ q).hdr].drop 0).take (1*Kd.hdr.n)) :=
  xd (k:=.hdr) (ys:=[hdh (ρ q)]) (cap:=1) tb (by simp[Kd.n]) (fun j hj=>by
   have hj0:j=0:=by simpa using hj
   subst hj0
   show [(ρ q).hdr]=[hval (hdh (ρ q))]
   rw[gu])
 have hr:=yS (ty:=ty) hp1 hT (GY ht hslc h1 hte hze) (k:=.hdr) rfl hb (key:=key) (d:=d) (xs:=as) (by show (if key==key then _ else _)=_;rw[beq_self_eq_true,if_pos rfl]) (fun k o hk hkd=>by
  rcases sel k o hk with ⟨rfl,rfl⟩|⟨_,_,h3⟩
  ·rfl
  ·exact hfr k o h3 hkd) hsrc (by
  show ((as.length:Int)+1)*(ie.bytes:Int)<=_
  rw[hl];exact hbound)
 obtain ⟨nx,w',ρ',r1,r2,r3,r4,r5,r6⟩:=hr
 refine ⟨nx,w',ρ',r1,r2,?_,⟨r4.le,fun b hX=>r4.nm b (.inl hX),fun b hX=>r4.un b (.inl hX),r4.size,r4.os,r4.out,r4.tape⟩,r5,r6⟩
 have hd0:qQ [(d,some (MObj.rows .hdr (as++[hdh (ρ q)]))),(key,none)] L1 d=some (.rows .hdr (as++[hdh (ρ q)])):=by simp[qQ]
 obtain ⟨d0,d1,d2⟩:=r3.obj _ _ hd0
 rcases d2 with ⟨_,d2⟩|⟨dn,dcap,vs,dT,db,dvl,del⟩
 ·simp at d2
 have hlen:(as++[hdh (ρ q)]).length=as.length+1:=by simp
 have n1:Kd.hdr.n=1:=rfl
 rw[n1,Nat.mul_one] at dvl
 have hvs:=VS (by omega) del
 have old:∀(i:Nat) (hi:i<as.length),(as++[hdh (ρ q)])[i]'(by rw[hlen];omega)=as[i]:=fun i hi=>List.getElem_append_left hi
 have last:(as++[hdh (ρ q)])[as.length]'(by rw[hlen];omega)=hdh (ρ q):=by simp
 have qf:∀b l c,hdh (ρ q)=some (b,l,c)->foot ρ q b:=fun b l c e'=>by
  unfold hdh at e'
  split at e'
  ·cases e'
  ·rename_i hn
   simp only[Option.some.injEq,Prod.mk.injEq] at e'
   exact ⟨by simpa using hn,e'.1.symm⟩
 have sel2:∀k o,qQ [(d,some (MObj.rr true e (xss++[ys]) none)),(key,none),(q,none),(t,none)] L k=some o->(k=d/\o=.rr true e (xss++[ys]) none)\/(k≠d/\qQ [(d,some (MObj.rows .hdr (as++[hdh (ρ q)]))),(key,none)] L1 k=some o):=fun k o hk=>by
  simp only[qQ] at hk ⊢
  by_cases e1:d=k
  ·rw[if_pos (by simpa using e1)] at hk
   simp only[Option.some.injEq] at hk
   exact .inl ⟨e1.symm,hk.symm⟩
  ·refine .inr ⟨fun x=>e1 x.symm,?_⟩
   rw[if_neg (by simpa using e1)] at hk ⊢
   by_cases e2:key=k
   ·rw[if_pos (by simpa using e2)] at hk;cases hk
   ·rw[if_neg (by simpa using e2)] at hk ⊢
    by_cases e3:q=k
    ·rw[if_pos (by simpa using e3)] at hk;cases hk
    ·rw[if_neg (by simpa using e3)] at hk
     by_cases e4:t=k
     ·rw[if_pos (by simpa using e4)] at hk;cases hk
     ·rw[if_neg (by simpa using e4)] at hk
      show (if key==k then _ else if q==k||t==k then none else L k)=some o
      rw[if_neg (by simpa using e2),if_neg (by simp[e3,e4])];exact hk
 have sel3:∀k o,qQ [(d,some (MObj.rr true e (xss++[ys]) none)),(key,none),(q,none),(t,none)] L k=some o->∃o1,qQ [(d,some (MObj.rows .hdr (as++[hdh (ρ q)]))),(key,none)] L1 k=some o1:=fun k o hk=>by
  rcases sel2 k o hk with ⟨rfl,_⟩|⟨_,h2⟩
  ·exact ⟨_,hd0⟩
  ·exact ⟨_,h2⟩
 have hF:∀b,inner ρ' w' d (.rr true e (xss++[ys]) none) b->F b:=by
  rintro b ⟨_,_,us,T2,i,l,c,i1,i2,_,i3⟩
  rw[db] at i1
  simp only[Option.some.injEq,Obj.cells.injEq] at i1
  have e0:vs=us:=by simpa using congrArg Array.toList i1.1
  subst e0
  have hi:i<(as++[hdh (ρ q)]).length:=by rw[hlen,hl];simpa using i2
  have hv:=hvs i hi
  rw[i3,Option.some.injEq] at hv
  have hs:=vG hv.symm
  by_cases c1:i<as.length
  ·rw[old i c1] at hs;exact .inl (hinn i c1 b l c hs)
  ·have:i=as.length:=by rw[hlen] at hi;omega
   subst this
   rw[last] at hs;exact .inr (qf b l c hs)
 refine ⟨r3.mem,fun k o hk=>?_,fun k o k' o' b hk hk' hf hf'=>?_,fun k o b hk hf=>?_,fun k o b hk hf=>?_,fun b hb=>r3.lt b (.inl hb),fun k o b hk hi=>?_⟩
 ·rcases sel2 k o hk with ⟨rfl,rfl⟩|⟨_,h2⟩
  ·refine ⟨by rw[d0,hlen,hl];simp,d1,.inr ⟨dn,by rw[hlen] at dcap;simp;omega,vs,dT,db,dvl,fun i hi _=>?_,(fun j x hj=>by cases hj),fun _ i j b l c l' c' hi hj _ _ h3 h4=>?_⟩⟩
   ·have hi1:i<xss.length+1:=by simpa using hi
    have hv:=hvs i (by rw[hlen];omega)
    refine ⟨_,hv,?_⟩
    by_cases c1:i<as.length
    ·rw[old i c1,List.getElem_append_left (by omega)]
     rcases hrow i (by omega) c1 with hx|⟨b,cap,us,T2,e1,e2,e3,e4,e5⟩
     ·exact .inl hx
     ·refine .inr ⟨b,cap,us,T2,e1,e2,?_,e4,e5⟩
      rw[r4.un b (.inr (.inl (hinn i c1 b _ cap (vG e1))))];exact e3
    ·have:i=as.length:=by omega
     subst this
     rw[last,List.getElem_append_right (by omega)]
     simp only[hl,Nat.sub_self,List.getElem_cons_zero]
     rw[gu]
     rcases q2 with ⟨e1,e2⟩|⟨e1,e2,us,T2,e3,e4,e5⟩
     ·exact .inl ⟨by unfold Hd.hdr;rw[e1];rfl,e2⟩
     ·refine .inr ⟨(ρ q).blk,(ρ q).cap,us,T2,by unfold Hd.hdr;rw[e1,q0];rfl,e2,?_,e4,e5⟩
      rw[r4.un _ (.inr (.inr ⟨e1,rfl⟩))];exact e3
   ·have hi1:i<xss.length+1:=by simpa using hi
    have hj1:j<xss.length+1:=by simpa using hj
    have v1:=hvs i (by rw[hlen];omega)
    have v2:=hvs j (by rw[hlen];omega)
    rw[h3,Option.some.injEq] at v1
    rw[h4,Option.some.injEq] at v2
    have s1:=vG v1.symm
    have s2:=vG v2.symm
    by_cases c1:i<as.length
    ·by_cases c2:j<as.length
     ·rw[old i c1] at s1;rw[old j c2] at s2
      exact hdis i j c1 c2 b l c l' c' s1 s2
     ·have:j=as.length:=by omega
      subst this
      rw[old i c1] at s1;rw[last] at s2
      exact ((h.inn key _ b hkey (hinn i c1 b l c s1)).2.2.1 q _ hq (qf b l' c' s2)).elim
    ·have e1:i=as.length:=by omega
     subst e1
     by_cases c2:j<as.length
     ·rw[last] at s1;rw[old j c2] at s2
      exact ((h.inn key _ b hkey (hinn j c2 b l' c' s2)).2.2.1 q _ hq (qf b l c s1)).elim
     ·omega
  ·exact r3.obj k o h2
 ·obtain ⟨o1,h1⟩:=sel3 k o hk
  obtain ⟨o2,h2⟩:=sel3 k' o' hk'
  exact r3.dj k o1 k' o2 b h1 h2 hf hf'
 ·obtain ⟨o1,h1⟩:=sel3 k o hk
  exact r3.djm k o1 b h1 hf
 ·obtain ⟨o1,h1⟩:=sel3 k o hk
  exact fun hX=>r3.djX k o1 b h1 hf (.inl hX)
 ·rcases sel2 k o hk with ⟨rfl,rfl⟩|⟨_,h2⟩
  ·have hb:=hF b hi
   refine ⟨hFm b hb,hFX b hb,fun k' o' hk' hf'=>?_,fun k' o' hk' hi'=>?_⟩
   ·obtain ⟨o1,h1⟩:=sel3 k' o' hk'
    exact r3.djX k' o1 b h1 hf' (.inr hb)
   ·rcases sel2 k' o' hk' with ⟨e',_⟩|⟨_,h3⟩
    ·exact e'.symm
    ·exact ((r3.inn k' o' b h3 hi').2.1 (.inr hb)).elim
  ·obtain ⟨i1,i2,i3,i4⟩:=r3.inn k o b h2 hi
   refine ⟨i1,fun hX=>i2 (.inl hX),fun k' o' hk' hf'=>?_,fun k' o' hk' hi'=>?_⟩
   ·obtain ⟨o1,h1⟩:=sel3 k' o' hk'
    exact i3 k' o1 h1 hf'
   ·rcases sel2 k' o' hk' with ⟨rfl,rfl⟩|⟨_,h3⟩
    ·exact (i2 (.inr (hF b hi'))).elim
    ·exact i4 k' o' h3 hi'
theorem GE {tab:Nat->Option TI} {L:List (Nat×Option MObj)} {i:TI} {e:Kd} {x:MV} {t q:Nat} {ys:List e.T} {n:Nat} (h:Hi tab L i e x=some (t,q,ys,n)) :
  ∃ie,x=.hd t 1/\ww L t=some (.cells [.sl q])/\ww L q=some (.rows e ys)/\tab i.elem=some ie/\i.slc=true/\i.esz=1/\ie.zero=[.nils]/\1<=ie.bytes/\n=ie.bytes:=by
 unfold Hi at h
 split at h
 ·split at h
  ·rename_i ht hie
   split at h
   ·rename_i hq
    split at h
    ·rename_i he
     split at h
     ·rename_i hc
      subst he
      simp only[Bool.and_eq_true,beq_iff_eq,decide_eq_true_eq] at hc
      obtain ⟨⟨⟨⟨rfl,c2⟩,c3⟩,c4⟩,c5⟩:=hc
      simp only[Option.some.injEq,Prod.mk.injEq] at h
      obtain ⟨rfl,rfl,rfl,rfl⟩:=h
      exact ⟨_,rfl,ht,hq,hie,c2,c3,KJ c4,c5,rfl⟩
     ·cases h
    ·cases h
   ·cases h
  ·cases h
 ·cases h

theorem v5 {m:Mem} {ik:IntKind} {ys:Li} {vs:List Value} (h:vs=ys.map (Value.int ik)):∀(i:Nat) (hi:i<ys.length),(Kd.int ik).R m ys[i] ((vs.drop (i*(Kd.int ik).n)).take (Kd.int ik).n):=by
 intro i hi
 subst h
 show ((ys.map (Value.int ik)).drop (i*1)).take 1=[.int ik ys[i]]
 rw[Nat.mul_one,List.drop_eq_getElem_cons (by simpa using hi)]
 simp
theorem Qw {ρ:Nat->Hd} {m:Mem} {ik:IntKind}:∀{ys:Li} {vs:List Value},CvL ρ m (ys.map (MV.int ik)) vs->vs=ys.map (Value.int ik)
 | [],_,h=>h
 | y::ys,vs,⟨v,us,e,h1,h2⟩=>by
  simp only[Cv] at h1
  rw[e,h1,Qw h2];rfl
theorem VW {ik:IntKind} {ys:Li} {off:Nat} {y:Int} (h:off<ys.length):(ys.map (Value.int ik)).take off++(.int ik y::(ys.map (Value.int ik)).drop (off+1))=(ys.set off y).map (Value.int ik):=by
 rw[List.map_set,List.set_eq_take_append_cons_drop,if_pos (by simpa using h)]
theorem ZU {P:Program} {X:Nat->Prop} {ρ:Nat->Hd} {m:Mem} {L:Nat->Option MObj} {w:World} (h:Hp X ρ m L w) {T:Nat} {i:TI} (ht:TOK P T i) {key n off:Nat} {ik:IntKind} {xs:Li} {y:Int} (hk:L key=some (.arr (.int ik) n xs)) {v:Value}
  (hv:Cv ρ m (.int ik y) v) (hn:i.size=1) (ho:off<n) (d:Nat) :
  ja P X ρ m L w d (do Instr.storeAt T (.pointer (some ⟨(ρ key).blk,off,none⟩)) v;pure .skip) .nilp [(key,some (.arr (.int ik) n (xs.set off y)))] false:=by
 obtain ⟨hnil,hl,vs,T',hb,hvl,hel⟩:=h.obj _ _ hk
 simp only[Cv] at hv;subst hv
 have hvl:vs.length=n:=by simpa [Kd.n] using hvl
 have hvs:=Y8 (by omega) hel
 obtain ⟨w',h1,h2⟩:=ju (P:=P) (off:=off) ht hb (v:=.int ik y) (by rw[hn];rfl) (by omega) (fun u hu=>by simp only[Value.cells,List.mem_singleton] at hu;subst hu;rfl)
 refine ⟨.skip,w',ρ,?_,.inr ⟨rfl,rfl,rfl⟩,?_,?_,fun _ _=>rfl,fun _=>rfl⟩
 ·rw[wc,h1];rfl
 ·rw[qT]
  refine h.turn key _ (fun b=>b=(ρ key).blk) (fun _ _=>rfl) (.inl rfl) (fun b _ hb=>h2.un b hb) (Nat.le_of_eq h2.size.symm) (fun b _ hb=>hb▸h.djm key _ _ hk ⟨hnil,rfl⟩) (fun k o b hne hk' hf hb=>?_) (fun o ho'=>?_)
  ·exact hne (h.dj k o key _ b hk' hk hf ⟨hnil,hb⟩)
  ·simp only[Option.some.injEq] at ho';subst ho'
   have he:vs.take off++((Value.int ik y).cells.toList++vs.drop (off+i.size))=(xs.set off y).map (Value.int ik):=by
    rw[hn,hvs];exact VW (by omega)
   refine ⟨⟨hnil,by rw[List.length_set];exact hl,_,T',h2.at_,?_,?_⟩,fun b hf=>⟨h.djm key _ _ hk hf,h.djX key _ _ hk hf,fun k' o' hne hk' hf'=>hne (h.dj k' o' key _ b hk' hk hf' hf)⟩⟩
   ·rw[he];simp[Kd.n,hl]
   ·exact v5 he
 ·exact h2.nx (h.djX key _ _ hk ⟨hnil,rfl⟩)
theorem QQ {P:Program} {X:Nat->Prop} {ρ:Nat->Hd} {m:Mem} {L:Nat->Option MObj} {w:World} (h:Hp X ρ m L w) {T:Nat} {i:TI} (ht:TOK P T i) {key n:Nat} {ik:IntKind} {xs ys:Li} (hk:L key=some (.arr (.int ik) n xs)) {x:MV} {v:Value}
  (hv:Cv ρ m x v) (hy:KK ik (mvcells x)=some ys) (hyn:ys.length=n) (hn:(mvcells x).length=i.size) (hs:solid x=true) (hc:(mvcells x).all cellm=true) (d:Nat) :
  ja P X ρ m L w d (do Instr.storeAt T (.pointer (some ⟨(ρ key).blk,0,none⟩)) v;pure .skip) .nilp [(key,some (.arr (.int ik) n ys))] false:=by
 obtain ⟨hnil,hl,vs,T',hb,hvl,hel⟩:=h.obj _ _ hk
 have hcv:=xN hs hv
 have hlen:=CvL.length hcv
 have hn1:(Kd.int ik).n=1:=rfl
 rw[hn1,Nat.mul_one] at hvl
 have hyl:(mvcells x).length=ys.length:=by rw[Zb hy,List.length_map]
 obtain ⟨w',h1,h2⟩:=ju (P:=P) (off:=0) ht hb (v:=v) (by rw[<-Array.length_toList,hlen,hn]) (by omega) (yr hc hcv)
 refine ⟨.skip,w',ρ,?_,.inr ⟨rfl,rfl,rfl⟩,?_,?_,fun _ _=>rfl,fun _=>rfl⟩
 ·rw[wc,h1];rfl
 ·rw[qT]
  refine h.turn key _ (fun b=>b=(ρ key).blk) (fun _ _=>rfl) (.inl rfl) (fun b _ hb=>h2.un b hb) (Nat.le_of_eq h2.size.symm) (fun b _ hb=>hb▸h.djm key _ _ hk ⟨hnil,rfl⟩) (fun k o b hne hk' hf hb=>?_) (fun o ho'=>?_)
  ·exact hne (h.dj k o key _ b hk' hk hf ⟨hnil,hb⟩)
  ·simp only[Option.some.injEq] at ho';subst ho'
   have hcs:v.cells.toList=ys.map (Value.int ik):=Qw (by rw[<-Zb hy];exact hcv)
   have he:vs.take 0++(v.cells.toList++vs.drop (0+i.size))=ys.map (Value.int ik):=by
    rw[hcs,List.take_zero,List.nil_append,List.drop_of_length_le (by omega),List.append_nil]
   refine ⟨⟨hnil,hyn,_,T',h2.at_,?_,?_⟩,fun b hf=>⟨h.djm key _ _ hk hf,h.djX key _ _ hk hf,fun k' o' hne hk' hf'=>hne (h.dj k' o' key _ b hk' hk hf' hf)⟩⟩
   ·rw[he];simp[Kd.n,hyn]
   ·exact v5 he
 ·exact h2.nx (h.djX key _ _ hk ⟨hnil,rfl⟩)
theorem Kk {P:Program} {X:Nat->Prop} {ρ:Nat->Hd} {m:Mem} {L:Nat->Option MObj} {w:World} (h:Hp X ρ m L w) {tys:Array TypeId} {ty T:TypeId} (h0:tys[0]? = some T) {i:TI} (ht:TOK P T i) {k:Kd} (hk:i.ek=some k)
  {key n:Nat} {xs:List k.T} (hkey:L key=some (.arr k n xs)) {v:Value} {ys:List k.T}
  (hsrc:∀q,q<=ys.length->(∃a c,v=.slice a ys.length c)/\∃cs:List Value,(Builtin.firstCells k.n q v).run P w=.ok cs.toArray w/\cs.length=q*k.n/\RL m k (ys.take q) cs) (d:Nat) :
  ja P X ρ m L w d (do pure (.value (← Builtin.copy_ tys ty #[.slice (some ⟨(ρ key).blk,0,none⟩) n n,v]))) (.int .i64 ((min ys.length n:Nat):Int)) [(key,some (.arr k n (cpy 0 xs ys)))] false:=by
 obtain ⟨hslc,hkn,je,z,hje,hjb,hz,hzr⟩:=ht.ek k hk
 obtain ⟨hund,hsz⟩:=ht.slc hslc
 obtain ⟨j',hj',hjs⟩:=zW hsz
 rw[hje] at hj';cases hj'
 obtain ⟨hn,hl,vs,T',hbk,hvl,hel⟩:=h.obj _ _ hkey
 subst hl
 have hq:min ys.length xs.length<=ys.length:=Nat.min_le_left _ _
 obtain ⟨⟨a,c,rfl⟩,cs,hrd,hcl,hcr⟩:=hsrc _ hq
 have hmin:Nat.min ys.length xs.length=min ys.length xs.length:=rfl
 have pre:∀(w':World) (st:(storeCells ⟨(ρ key).blk,0,none⟩ cs:Sem Unit).run P w=.ok () w'),(Builtin.copy_ tys ty #[.slice (some ⟨(ρ key).blk,0,none⟩) xs.length xs.length,.slice a ys.length c]).run P w=.ok (goInt ((min ys.length xs.length:Nat):Int)) w':=by
  intro w' st
  unfold Builtin.copy_
  simp only[h0,List.getElem?_toArray,List.getElem?_cons_zero,List.getElem?_cons_succ]
  rw[wc,wm hund];simp only
  rw[wc,show (Builtin.lenOf (.slice a ys.length c)).run P w=.ok ys.length w from rfl];simp only
  rw[wc,wZ hje,hjs];simp only
  rw[hmin,<-hkn,wc,hrd];simp only
  rw[wc,st];rfl
 have hsm:min ys.length xs.length*k.n<=xs.length*k.n:=Nat.mul_le_mul_right _ (by omega)
 have hoc:∀u∈cs,ocell u=true:=Wb hcr (by rw[hcl,List.length_take,Nat.min_eq_left hq])
 obtain ⟨w',s1,s2⟩:=ko (P:=P) (b:=(ρ key).blk) (off:=0) (T:=T') cs 0 w vs hbk (by rw[hcl];omega) hoc
 refine ⟨.value (goInt ((min ys.length xs.length:Nat):Int)),w',ρ,?_,.inl ⟨_,rfl,rfl⟩,?_,?_,fun _ _=>rfl,fun _=>rfl⟩
 ·rw[wc,pre w' s1];rfl
 ·rw[qT]
  refine h.turn key _ (fun b=>b=(ρ key).blk) (fun _ _=>rfl) (.inl rfl) (fun b _ hb=>s2.un b hb) (Nat.le_of_eq s2.size.symm) (fun b _ hb=>hb▸h.djm key _ _ hkey ⟨hn,rfl⟩) (fun k' o b hne hk' hf hb=>?_) (fun o ho'=>?_)
  ·exact hne (h.dj k' o key _ b hk' hkey hf ⟨hn,hb⟩)
  ·simp only[Option.some.injEq] at ho';subst ho'
   have hcl2:(cpy 0 xs ys).length=xs.length:=by simp[cpy];omega
   have hcpy:cpy 0 xs ys=xs.take 0++(ys.take (min ys.length xs.length)++xs.drop (0+min ys.length xs.length)):=by
    unfold cpy
    rw[Nat.sub_zero]
    rcases Nat.le_total ys.length xs.length with e|e
    ·rw[Nat.min_eq_left e,List.take_of_length_le e,List.take_of_length_le (Nat.le_refl _)]
    ·rw[Nat.min_eq_right e,List.drop_of_length_le (by omega),List.drop_of_length_le (by omega)]
   refine ⟨⟨hn,hcl2,_,T',s2.at_,?_,?_⟩,fun b hf=>⟨h.djm key _ _ hkey hf,h.djX key _ _ hkey hf,fun k' o' hne hk' hf'=>hne (h.dj k' o' key _ b hk' hkey hf' hf)⟩⟩
   ·simp[hcl];omega
   ·rw[hcpy,Nat.add_zero,hcl]
    have el:RL m k xs vs:=hel
    have e2:cs.length=(ys.take (min ys.length xs.length)).length*k.n:=by rw[hcl,List.length_take,Nat.min_eq_left hq]
    have e3:RL m k (xs.take 0++(ys.take (min ys.length xs.length)++xs.drop (0+min ys.length xs.length))) (vs.take 0++(cs++vs.drop (0+min ys.length xs.length*k.n))):=by
     rw[Nat.zero_add,Nat.zero_add,List.take_zero,List.take_zero,List.nil_append,List.nil_append]
     exact RL.app hcr e2 (el.drop _)
    exact e3
 ·exact s2.nx (h.djX key _ _ hkey ⟨hn,rfl⟩)

theorem JS {P:Program} {X:Nat->Prop} {ρ:Nat->Hd} {m:Mem} {L:Nat->Option MObj} {w:World} (h:Hp X ρ m L w) {d:Nat} (hfr:∀k o,L k=some o->k≠d->o.has d=false) (T:TypeId) :
  ja P X ρ m L w d (do pure (.value (← Instr.makeMap T none))) (.mp d) [(d,some .emp)] true:=by
 have hn:Nw w { w with heap:=w.heap.push (.map #[] 0) } (.map #[] 0):=⟨rfl,rfl,rfl,rfl⟩
 refine ⟨.value (.map (some w.heap.size)),{ w with heap:=w.heap.push (.map #[] 0) },setρ ρ d ⟨w.heap.size,0,0,false,0⟩,rfl,.inl ⟨_,rfl,by simp only[Cv,setρ_eq]⟩,?_⟩
 have ho:osat (setρ ρ d ⟨w.heap.size,0,0,false,0⟩) m { w with heap:=w.heap.push (.map #[] 0) } d .emp:=by
  refine ⟨by rw[setρ_eq],0,?_⟩
  rw[setρ_eq];simp
 obtain ⟨g1,g2⟩:=hn.hp h (hd:=⟨w.heap.size,0,0,false,0⟩) rfl hfr ho
 exact ⟨g1,g2,fun k hk=>setρ_ne _ _ _ hk,fun e=>by cases e⟩
theorem YW {P:Program} {X:Nat->Prop} {ρ:Nat->Hd} {m:Mem} {L:Nat->Option MObj} {w:World} (h:Hp X ρ m L w) {tys:Array TypeId} {ty T:TypeId} (h0:tys[0]? = some T) {i:TI} (ht:TOK P T i) (hm:i.mp=true) {key:Nat} (hk:L key=some .emp) (kn:IntKind) (x:Int) (d:Nat) :
  ja P X ρ m L w d (do pure (.value (← Builtin.delete_ tys ty #[.map (some (ρ key).blk),.int kn x]))) (.tup []) [(key,some .emp)] false:=by
 obtain ⟨K,ik,j,hu,hku,hj,hz⟩:=ht.mp hm
 obtain ⟨hn,c,hb⟩:=h.obj _ _ hk
 have hset:(setObj (ρ key).blk (.map #[] c)).run P w=.ok () { w with heap:=w.heap.setIfInBounds (ρ key).blk (.map #[] c) }:=by
  unfold setObj
  simp[Sem.run,hb]
 have hw:w.heap.setIfInBounds (ρ key).blk (.map #[] c)=w.heap:=by
  obtain ⟨hlt,he⟩:=Array.getElem?_eq_some_iff.1 hb
  apply Array.ext
  ·simp
  ·intro q q1 q2
   rw[Array.getElem_setIfInBounds]
   split
   ·rename_i e;subst e;exact he.symm
   ·rfl
 have hrun:(Builtin.delete_ tys ty #[.map (some (ρ key).blk),.int kn x]).run P w=.ok (.tuple #[]) w:=by
  unfold Builtin.delete_
  simp only[h0,List.getElem?_toArray,List.getElem?_cons_zero,List.getElem?_cons_succ]
  rw[wc,wm hu];simp only
  rw[wc,Zh hb];simp only
  rw[wc,Wf hku];simp only
  have hf:(Instr.findKey K (.int kn x) (#[]:Array MapEntry).toList).run P w=.ok none w:=by
   unfold Instr.findKey
   rw[wc,wm hku];rfl
  rw[wc,hf];simp only
  rw[wc,hset];simp only
  rw[hw];rfl
 refine ⟨.value (.tuple #[]),w,ρ,by rw[wc,hrun];rfl,.inl ⟨_,rfl,[],rfl,rfl⟩,?_,Nx.refl _ _ _,fun _ _=>rfl,fun _=>rfl⟩
 rw[qT]
 have:(fun q=>if key==q then some MObj.emp else L q)=L:=by
  funext q
  split
  ·rename_i e;rw[<-beq_iff_eq.1 e];exact hk.symm
  ·rfl
 rw[this];exact h
end
section

theorem Qe {A:List (Nat×MV)} {d:Nat} (hA:∀s x,get A s=some x->x.has d=false) {x:Operand} {y:MV} (h:opd A x=some y):y.has d=false:=by
 cases x with
 | tmp t=>exact hA t y h
 | const v =>
  simp only[opd,Option.some.injEq] at h;subst h
  unfold ofc
  split<;>rfl
 | func f=>simp only[opd,Option.some.injEq] at h;subst h;rfl
 | global g=>simp[opd] at h

theorem Qc {A:List (Nat×MV)} {d:Nat} (hA:∀s x,get A s=some x->x.has d=false) {g:Option Bool} {x:Operand} {y:MV} {C:Prop} (h:opg A g x=some (y,C)):y.has d=false:=by
 unfold opg at h
 split at h
 ·rename_i t z hz
  have:=Qe hA hz
  split at h
  ·simp only[Option.some.injEq,Prod.mk.injEq] at h;obtain ⟨rfl,_⟩:=h;exact this
  ·cases h
 ·rename_i z _ hz
  simp only[Option.some.injEq,Prod.mk.injEq] at h;obtain ⟨rfl,_⟩:=h
  exact Qe hA hz
 ·cases h

theorem vS {x:MV} {d:Nat} (h:x.has d=false):MV.hasL d (mvcells x)=false:=by
 cases x<;>simp_all [mvcells,MV.has,MV.hasL]

theorem WU {d:Nat}:∀{l l':List MV},MV.hasL d l=false->MV.hasL d l'=false->MV.hasL d (l++l')=false
 | [],_,_,h=>h
 | x::l,l',h,h'=>by
  simp only[MV.hasL,Bool.or_eq_false_iff,List.cons_append] at h ⊢
  exact ⟨h.1,WU h.2 h'⟩
theorem Wn {A:List (Nat×MV)} {d:Nat} (hA:∀s x,get A s=some x->x.has d=false) {g:Option Bool}:∀{l:List (Nat×Operand)} {ps:List (Nat×MV)} {C:Prop},yP A g l=some (ps,C)->∀q∈ps,q.2.has d=false
 | [],ps,C,h=>by
  simp only[yP,Option.some.injEq,Prod.mk.injEq] at h;obtain ⟨rfl,_⟩:=h
  intro q hq;cases hq
 | (i,x)::l,ps,C,h=>by
  unfold yP at h
  split at h
  ·rename_i y E ys F h1 h2
   simp only[Option.some.injEq,Prod.mk.injEq] at h;obtain ⟨rfl,_⟩:=h
   intro q hq
   rcases List.mem_cons.1 hq with rfl|hq
   ·exact Qc hA h1
   ·exact Wn hA h2 q hq
  ·cases h
theorem Z6 {sz d:Nat}:∀{ps:List (Nat×MV)} {n:Nat} {cs:List MV},hdM sz n ps=some cs->(∀q∈ps,q.2.has d=false)->MV.hasL d cs=false
 | [],n,cs,h,_=>by simp only[hdM,Option.some.injEq] at h;subst h;rfl
 | (i,x)::l,n,cs,h,hp=>by
  unfold hdM at h
  split at h
  ·split at h
   ·rename_i r hr
    simp only[Option.some.injEq] at h;subst h
    exact WU (vS (hp _ (List.mem_cons_self ..))) (Z6 hr fun q hq=>hp q (List.mem_cons_of_mem _ hq))
   ·cases h
  ·cases h

theorem vX {P:Program} {tab:Nat->Option TI} (hT:∀t i,tab t=some i->TOK P t i) {tys:Array TypeId} {T:TypeId} {i:TI} (h0:tys[0]? = some T) (hi:tab T=some i) (hslc:i.slc=true)
  (h1:(tys[1]? == some T||tys[1]?.any fun t=>(tab t).any (fun j=>j.slc||j.tag==7))=true):ATy P tys T:=by
 refine ⟨h0,fun t ht=>?_⟩
 rw[ht] at h1
 simp only[Bool.or_eq_true,beq_iff_eq,Option.some.injEq,Option.any_some] at h1
 rcases h1 with rfl|h1
 ·exact ⟨_,((hT _ _ hi).slc hslc).1,fun q e=>by cases e⟩
 ·cases ht':tab t with
  | none=>rw[ht'] at h1;simp at h1
  | some j =>
   rw[ht'] at h1
   simp only[Option.any_some,Bool.or_eq_true,beq_iff_eq] at h1
   rcases h1 with h1|hg
   ·exact ⟨_,((hT _ _ ht').slc h1).1,fun q e=>by cases e⟩
   ·obtain ⟨d,hd,_,htag⟩:=(hT _ _ ht').und
    exact ⟨d,hd,fun q e=>by rw[e,hg] at htag;cases htag⟩

theorem XB {tab:Nat->Option TI} {L:List (Nat×Option MObj)} {i:TI} {d n c:Nat} {x:MV} {ys:List MV} (h:uy tab L i d n x=some (c,ys)) :
  ∃q ie,x=.hd q c/\ww L q=some (.cells ys)/\tab i.elem=some ie/\ys.all Kc=true/\ys.length=c*i.esz/\1<=c/\i.slc=true/\1<=i.esz/\ie.zero=List.replicate i.esz .nilp/\1<=ie.bytes/\(n+c)*ie.bytes<=70368744177664/\q≠d:=by
 unfold uy at h
 split at h
 ·rename_i q c'
  split at h
  ·rename_i zs ie hq hie
   split at h
   ·rename_i hc
    simp only[Bool.and_eq_true,decide_eq_true_eq,beq_iff_eq,Bool.not_eq_true',beq_eq_false_iff_ne] at hc
    simp only[Option.some.injEq,Prod.mk.injEq] at h;obtain ⟨rfl,rfl⟩:=h
    obtain ⟨⟨⟨⟨⟨⟨⟨⟨c1,c2⟩,c3⟩,c4⟩,c5⟩,c6⟩,c7⟩,c8⟩,c9⟩:=hc
    exact ⟨q,ie,rfl,hq,hie,c1,c2,c3,c4,c5,Qn c6,c7,c8,c9⟩
   ·cases h
  ·cases h
 ·cases h

theorem uB {P:Program} {tab:Nat->Option TI} (hT:∀t i,tab t=some i->TOK P t i) {A:List (Nat×MV)} {Lv:List (Nat×Option MObj)} {g:Option Bool} (hg:GOK g) {d:Nat} {o:Oper} {mv:MV} {U:List (Nat×Option MObj)} {fr:Bool} {C:Prop}
  (h:vm tab A Lv g d o.op=some (mv,U,fr,C)) (hC:C) {X:Nat->Prop} {ρ:Nat->Hd} {m:Mem} {L:Nat->Option MObj} {a:Act} {w:World} (hA:v9 ρ m A a) (hL:∀k x,ww Lv k=some x->L k=some x) (hH:Hp X ρ m L w)
  (hfr:fr=true->∀k o,L k=some o->k≠d->o.has d=false) (hAf:fr=true->∀s x,get A s=some x->x.has d=false):ja P X ρ m L w d (execOp a.eval o) mv U fr:=by
 have hO:∀k o,ww Lv k=some o->osat ρ m w k o:=fun k o hk=>hH.obj k o (hL k o hk)
 obtain ⟨dst,op,ty,pos,after,guard⟩:=o
 simp only at h
 unfold vm at h
 split at h
 ·-- store
  rename_i T x v
  split at h
  ·rename_i i key off D v' E h0 h1 h2
   split at h
   ·rename_i cs hk
    split at h
    ·rename_i hc
     simp only[Bool.and_eq_true,beq_iff_eq,decide_eq_true_eq] at hc
     simp only[Option.some.injEq,Prod.mk.injEq] at h;obtain ⟨rfl,rfl,rfl,rfl⟩:=h
     have hx:=zh hA hg h1 hC.1
     have hv:=zh hA hg h2 hC.2
     simp only[Cv] at hx
     have:=ZT (P:=P) hH (hT _ _ h0) (hL _ _ hk) hv hc.1.1.1 hc.1.1.2 hc.1.2 hc.2 d
     rw[<-hx] at this
     exact this
    ·cases h
   ·rename_i ik n zs hk
    split at h
    ·rename_i k' y
     split at h
     ·rename_i hc
      obtain ⟨rfl,hc⟩:=hc
      simp only[Option.some.injEq,Prod.mk.injEq] at h;obtain ⟨rfl,rfl,rfl,rfl⟩:=h
      have hx:=zh hA hg h1 hC.1
      have hv:=zh hA hg h2 hC.2.1
      simp only[Cv] at hx
      have:=ZU (P:=P) hH (hT _ _ h0) (hL _ _ hk) hv hc hC.2.2 d
      rw[<-hx] at this
      exact this
     ·cases h
    split at h
    ·rename_i ys hys
     split at h
     ·rename_i hc
      simp only[Bool.and_eq_true,beq_iff_eq] at hc
      obtain ⟨⟨⟨⟨rfl,hc2⟩,hc3⟩,hc4⟩,hc5⟩:=hc
      simp only[Option.some.injEq,Prod.mk.injEq] at h;obtain ⟨rfl,rfl,rfl,rfl⟩:=h
      have hx:=zh hA hg h1 hC.1
      have hv:=zh hA hg h2 hC.2
      simp only[Cv] at hx
      have:=QQ (P:=P) hH (hT _ _ h0) (hL _ _ hk) hv hys hc2 hc3 hc4 hc5 d
      rw[<-hx] at this
      exact this
     ·cases h
    ·cases h
   ·rename_i T' o hk
    split at h
    ·rename_i q
     split at h
     ·rename_i hc
      simp only[Bool.and_eq_true,beq_iff_eq] at hc
      obtain ⟨rfl,hc⟩:=hc
      simp only[Option.some.injEq,Prod.mk.injEq] at h;obtain ⟨rfl,rfl,rfl,rfl⟩:=h
      have hx:=zh hA hg h1 hC.1
      have hv:=zh hA hg h2 hC.2
      simp only[Cv] at hx
      have:=Qx (P:=P) hH (hT _ _ h0) (hL _ _ hk) hv hc d
      rw[<-hx] at this
      exact this
     ·cases h
    ·cases h
   ·cases h
  ·rename_i i key j f D v' E h0 h1 h2
   split at h
   ·rename_i k xs hk
    split at h
    ·rename_i hc
     simp only[Bool.and_eq_true,beq_iff_eq,decide_eq_true_eq] at hc
     split at h
     ·rename_i y hy
      simp only[Option.some.injEq,Prod.mk.injEq] at h;obtain ⟨rfl,rfl,rfl,rfl⟩:=h
      have hx:=zh hA hg h1 hC.1
      have hv:=zh hA hg h2 hC.2.1
      simp only[Cv] at hx
      have:=Z1 (P:=P) hH (hT _ _ h0) (hL _ _ hk) hv hc.1.1.1 hc.1.1.2 hc.1.2 hC.2.2 hc.2 hy d
      rw[<-hx] at this
      exact this
     ·split at h
      ·rename_i ob hob
       simp only[Option.some.injEq,Prod.mk.injEq] at h;obtain ⟨rfl,rfl,rfl,rfl⟩:=h
       obtain ⟨e,xs',q,hs,rfl,rfl,rfl⟩:=Um hob
       cases hs
       have hx:=zh hA hg h1 hC.1
       have hv:=zh hA hg h2 hC.2.1
       simp only[Cv] at hx hv
       have:=u7 (P:=P) hH (hT _ _ h0) (by have:=hc.1.1.1;simpa [mvcells] using this.symm) (q:=q) (hL _ _ hk) hC.2.2 d
       rw[<-hx,<-hv] at this
       exact this
      ·cases h
    ·cases h
   ·rename_i e xss ho hk
    split at h
    ·rename_i q
     split at h
     ·rename_i e' ys hq
      split at h
      ·rename_i he
       subst he
       split at h
       ·rename_i hc
        simp only[Bool.and_eq_true,beq_iff_eq] at hc
        obtain ⟨rfl,hc⟩:=hc
        simp only[Option.some.injEq,Prod.mk.injEq] at h;obtain ⟨rfl,rfl,rfl,rfl⟩:=h
        have hx:=zh hA hg h1 hC.1
        have hv:=zh hA hg h2 hC.2.1
        simp only[Cv] at hx hv
        have:=gT (P:=P) hH (hT _ _ h0) hc (hL _ _ hk) hC.2.2.1 (Ga hC.2.2.2) (hL _ _ hq) d
        rw[<-hx,<-hv] at this
        exact this
       ·cases h
      ·cases h
     ·cases h
    ·cases h
   ·cases h
  ·rename_i i key o j D v' E h0 h1 h2
   split at h
   ·rename_i pre cs post hk
    split at h
    ·rename_i hc
     simp only[Bool.and_eq_true,beq_iff_eq,decide_eq_true_eq] at hc
     simp only[Option.some.injEq,Prod.mk.injEq] at h;obtain ⟨rfl,rfl,rfl,rfl⟩:=h
     have hx:=zh hA hg h1 hC.1
     have hv:=zh hA hg h2 hC.2.1
     simp only[Cv] at hx
     have:=Q0 (P:=P) hH (hT _ _ h0) (hL _ _ hk) hv hc.1.1.1 hc.1.1.2 hc.1.2 hc.2 d
     rw[<-hC.2.2,<-hx] at this
     exact this
    ·cases h
   ·cases h
  ·cases h
 ·-- box
  rename_i T x
  split at h
  ·rename_i x' D h1
   split at h
   ·rename_i hs
    simp only[Option.some.injEq,Prod.mk.injEq] at h;obtain ⟨rfl,rfl,rfl,rfl⟩:=h
    have hv:=zh hA hg h1 hC
    exact Wg hH (hfr rfl) (vS (Qc (hAf rfl) h1)) (xN hs hv) T (Instr.box T (a.eval x)) (fun w' hw=>by
     unfold Instr.box newVar
     rw[wc,hw];rfl)
   ·cases h
  ·cases h
 ·-- alloc
  rename_i T
  split at h
  ·rename_i i h0
   split at h
   ·split at h
    ·rename_i hz0
     simp only[Option.some.injEq,Prod.mk.injEq] at h;obtain ⟨rfl,rfl,rfl,rfl⟩:=h
     obtain ⟨j,z,hj,_,_,hz,hzc⟩:=(hT _ _ h0).info
     exact Xa hH (hfr rfl) (hz0▸hzc ρ m) T (Instr.alloc T true (.tuple #[])) (fun w' hw=>by
      unfold Instr.alloc newVar
      rw[wc,qb hj hz];simp only
      rw[wc,hw];rfl)
    ·cases h
   simp only[Option.some.injEq,Prod.mk.injEq] at h;obtain ⟨rfl,rfl,rfl,rfl⟩:=h
   obtain ⟨j,z,hj,_,_,hz,hzc⟩:=(hT _ _ h0).info
   exact Wg hH (hfr rfl) ((hT _ _ h0).zfr d) (hzc ρ m) T (Instr.alloc T true (.tuple #[])) (fun w' hw=>by
    unfold Instr.alloc newVar
    rw[wc,qb hj hz];simp only
    rw[wc,hw];rfl)
  ·cases h
 ·-- buildSlice
  rename_i T len parts
  split at h
  ·rename_i i ps D h0 h1
   split at h
   ·rename_i k hk
    split at h
    ·rename_i xs hx
     split at h
     ·rename_i hc
      simp only[Bool.and_eq_true,beq_iff_eq,decide_eq_true_eq] at hc
      simp only[Option.some.injEq,Prod.mk.injEq] at h;obtain ⟨rfl,rfl,rfl,rfl⟩:=h
      obtain ⟨g1,g2⟩:=vJ hA hg h1 hC
      have:=ZV (P:=P) hH (hT _ _ h0) hk (hfr rfl) hx g1 g2 hc.1.1 hc.1.2 hc.2
      rw[show (parts.toList.map fun x=>(x.1,a.eval x.2)).toArray=(parts.map fun (i,x)=>(i,a.eval x)) by apply Array.ext';simp] at this
      exact this
     ·cases h
    ·cases h
   ·split at h
    ·rename_i hc
     simp only[Bool.and_eq_true,beq_iff_eq,decide_eq_true_eq,Option.isSome_iff_exists] at hc
     obtain ⟨⟨⟨⟨c1,ie,c2⟩,c3⟩,c4⟩,c5⟩:=hc
     split at h
     ·rename_i cs hx
      simp only[Option.some.injEq,Prod.mk.injEq] at h;obtain ⟨rfl,rfl,rfl,rfl⟩:=h
      obtain ⟨g1,g2⟩:=vJ hA hg h1 hC
      have:=Jn (P:=P) hH (hT _ _ h0) c1 (hT _ _ c2) (hfr rfl) hx (Z6 hx (Wn (hAf rfl) h1)) g1 g2 c3 c4 c5
      rw[show (parts.toList.map fun x=>(x.1,a.eval x.2)).toArray=(parts.map fun (i,x)=>(i,a.eval x)) by apply Array.ext';simp] at this
      exact this
     ·cases h
    ·cases h
  ·cases h
 ·-- makeSlice
  rename_i T n c
  split at h
  ·rename_i i kn n' D kc c' E h0 h1 h2
   split at h
   ·rename_i k hk
    split at h
    ·rename_i e hrr
     split at h
     ·rename_i ie hie
      split at h
      ·rename_i hc
       simp only[Bool.and_eq_true,decide_eq_true_eq] at hc
       obtain ⟨⟨⟨c1,c2⟩,rfl⟩,c4⟩:=hc
       simp only[Option.some.injEq,Prod.mk.injEq] at h;obtain ⟨rfl,rfl,rfl,rfl⟩:=h
       have hn:=zh hA hg h1 hC.1
       have hcc:=zh hA hg h2 hC.2.1
       simp only[Cv] at hn hcc
       have:=YQ (P:=P) hH (hT _ _ h0) hk (hT _ _ hie) (KJ c4) (hfr rfl) hC.2.2.1 hC.2.2.2.1 hC.2.2.2.2 c1 c2 kn kc
       rw[<-hn,<-hcc] at this
       exact this
      ·cases h
     ·cases h
    ·split at h
     ·rename_i hc
      simp only[Bool.and_eq_true,decide_eq_true_eq] at hc
      simp only[Option.some.injEq,Prod.mk.injEq] at h;obtain ⟨rfl,rfl,rfl,rfl⟩:=h
      have hn:=zh hA hg h1 hC.1
      have hcc:=zh hA hg h2 hC.2.1
      simp only[Cv] at hn hcc
      have:=Kb (P:=P) hH (hT _ _ h0) hk (hfr rfl) hC.2.2.1 hC.2.2.2.1 hC.2.2.2.2 hc.1 hc.2 kn kc
      rw[<-hn,<-hcc] at this
      exact this
     ·cases h
   ·split at h
    ·rename_i ie hie
     split at h
     ·rename_i hc
      simp only[Bool.and_eq_true,beq_iff_eq,decide_eq_true_eq] at hc
      obtain ⟨⟨⟨⟨⟨⟨c1,rfl⟩,c3⟩,c4⟩,c5⟩,c6⟩,c7⟩:=hc
      simp only[Option.some.injEq,Prod.mk.injEq] at h;obtain ⟨rfl,rfl,rfl,rfl⟩:=h
      have hn:=zh hA hg h1 hC.1
      have hcc:=zh hA hg h2 hC.2
      simp only[Cv] at hn hcc
      have:=YE (P:=P) hH (hT _ _ h0) c1 (hT _ _ hie) (hfr rfl) c3 c4 c5 c6 c7 kn kc
      rw[<-hn,<-hcc] at this
      exact this
     ·cases h
    ·cases h
  ·cases h
 ·-- append
  rename_i args argTypes
  split at h
  ·rename_i T s x D h0 h1
   split at h
   ·rename_i i hi
    obtain ⟨u,us,hu,hs,v,vs,hv,hx,hnil⟩:=j2 hA hg h1 (by
     revert hC
     split at h
     ·split at h
      ·split at h
       ·split at h
        ·simp only[Option.some.injEq,Prod.mk.injEq] at h;obtain ⟨_,_,_,rfl⟩:=h;exact fun h=>h.1
        ·cases h
       ·cases h
      ·split at h
       ·split at h
        ·simp only[Option.some.injEq,Prod.mk.injEq] at h;obtain ⟨_,_,_,rfl⟩:=h;exact fun h=>h
        ·cases h
       ·cases h
     ·split at h
      ·split at h
       ·split at h
        ·simp only[Option.some.injEq,Prod.mk.injEq] at h;obtain ⟨_,_,_,rfl⟩:=h;exact fun h=>h
        ·cases h
       ·cases h
      ·split at h
       ·split at h
        ·simp only[Option.some.injEq,Prod.mk.injEq] at h;obtain ⟨_,_,_,rfl⟩:=h;exact fun h=>h.1
        ·cases h
       ·split at h
        ·split at h
         ·simp only[Option.some.injEq,Prod.mk.injEq] at h;obtain ⟨_,_,_,rfl⟩:=h;exact fun h=>h.1
         ·cases h
        ·split at h
         ·split at h
          ·simp only[Option.some.injEq,Prod.mk.injEq] at h;obtain ⟨_,_,_,rfl⟩:=h;exact fun h=>h.1
          ·cases h
         ·cases h
        ·cases h
      ·split at h
       ·split at h
        ·simp only[Option.some.injEq,Prod.mk.injEq] at h;obtain ⟨_,_,_,rfl⟩:=h;exact fun h=>h.1
        ·cases h
       ·cases h
      ·split at h
       ·split at h
        ·simp only[Option.some.injEq,Prod.mk.injEq] at h;obtain ⟨_,_,_,rfl⟩:=h;exact fun h=>h.1
        ·cases h
       ·cases h
      ·cases h
     ·cases h)
    subst hv
    simp only[CvL] at hnil;subst hnil
    have hargs:args.map a.eval=#[u,v]:=by apply Array.ext';simpa using hu
    have run:∀mv U fr,ja P X ρ m L w d (do pure (.value (← Builtin.append_ argTypes ty #[u,v]))) mv U fr->ja P X ρ m L w d (execOp a.eval { dst:=dst,op:=.call { callee:=.builtin .append,args:=args,argTypes:=argTypes },type:=ty,pos:=pos,after:=after,guard:=guard }) mv U fr:=by
     intro mv U fr hr
     rw[<-hargs] at hr
     exact hr
    split at h
    ·split at h
     ·rename_i k hk
      split at h
      ·rename_i ys hys
       split at h
       ·rename_i hc
        rw[Bool.and_eq_true,decide_eq_true_eq] at hc
        simp only[Option.some.injEq,Prod.mk.injEq] at h;obtain ⟨rfl,rfl,rfl,rfl⟩:=h
        obtain ⟨cs,hsrc⟩:=QJ (P:=P) hys hO hH.mem hx
        simp only[Cv] at hs;subst hs
        exact run _ _ _ (vQ hH (vX hT h0 hi ((hT _ _ hi).ek k hk).1 hc.2) (hT _ _ hi) hk hc.1 (hfr rfl) hsrc hC.2)
       ·cases h
      ·cases h
     ·split at h
      ·rename_i c0 ys hys
       split at h
       ·rename_i hc
        simp only[Option.some.injEq,Prod.mk.injEq] at h;obtain ⟨rfl,rfl,rfl,rfl⟩:=h
        obtain ⟨q,ie,rfl,p1,p2,p3,p4,p5,p6,p7,p8,p9,p10,p11⟩:=XB hys
        simp only[Cv] at hs hx;subst hs hx
        exact run _ _ _ (ZC hH (vX hT h0 hi p6 hc) (hT _ _ hi) p6 p7 (hT _ _ p2) p8 p9 (hL _ _ p1) p11 p3 p4 p5 (hfr rfl) p10)
       ·cases h
      ·cases h
    ·rename_i key
     split at h
     ·rename_i s0 xs hkey hk
      split at h
      ·rename_i c0 ys hys
       split at h
       ·rename_i hc
        rw[Bool.and_eq_true,Bool.and_eq_true,Bool.and_eq_true,beq_iff_eq,Bool.not_eq_true',beq_eq_false_iff_ne] at hc
        obtain ⟨⟨⟨rfl,hc1⟩,hc2⟩,hc3⟩:=hc
        simp only[Option.some.injEq,Prod.mk.injEq] at h;obtain ⟨rfl,rfl,rfl,rfl⟩:=h
        obtain ⟨q,ie,rfl,p1,p2,p3,p4,p5,p6,p7,p8,p9,p10,p11⟩:=XB hys
        simp only[Cv] at hs hx;subst hs hx
        exact run _ _ _ (ZP hH (vX hT h0 hi p6 hc1) (hT _ _ hi) p6 p7 (hT _ _ p2) p8 p9 (hL _ _ hkey) hc3 hc2 (hL _ _ p1) p11 p3 p4 p5 (hfr rfl) p10)
       ·cases h
      ·cases h
     ·rename_i k xs k' hkey hk
      split at h
      ·rename_i ys hys
       split at h
       ·rename_i hc
        rw[Bool.and_eq_true,Bool.and_eq_true,decide_eq_true_eq,decide_eq_true_eq] at hc
        simp only[Option.some.injEq,Prod.mk.injEq] at h;obtain ⟨rfl,rfl,rfl,rfl⟩:=h
        obtain ⟨cs,hsrc⟩:=QJ (P:=P) hys hO hH.mem hx
        simp only[Cv] at hs;subst hs
        have hk':=hk
        rw[<-hc.1.2] at hk'
        exact run _ _ _ (yS hH (vX hT h0 hi ((hT _ _ hi).ek k' hk).1 hc.2) (hT _ _ hi) hk' hc.1.1 (hL _ _ hkey) (hfr rfl) hsrc hC.2)
       ·cases h
      ·split at h
       ·rename_i kn n t ht1 hno
        split at h
        ·rename_i hc
         simp only[Bool.and_eq_true,decide_eq_true_eq] at hc
         simp only[Option.some.injEq,Prod.mk.injEq] at h;obtain ⟨rfl,rfl,rfl,rfl⟩:=h
         simp only[Cv] at hs hx;subst hs hx
         have hk':=hk
         rw[<-hc.1.2] at hk'
         obtain ⟨jt,hjt,hji⟩:∃jt,tab t=some jt/\jt.ik.isSome=true:=by
          have:=hc.2
          cases htt:tab t with
          | none=>rw[htt] at this;cases this
          | some jt=>rw[htt] at this;exact ⟨jt,rfl,this⟩
         obtain ⟨q,hq⟩:=Option.isSome_iff_exists.1 hji
         exact run _ _ _ (ZH hH h0 ht1 ((hT _ _ hjt).ik q hq) (hT _ _ hi) hk' hc.1.1.1 hc.1.1.2 (hL _ _ hkey) (hfr rfl) hC.2.1 hC.2.2)
        ·cases h
       ·rename_i q c _ _
        split at h
        ·rename_i ys hys
         split at h
         ·rename_i hc
          rw[Bool.and_eq_true,Bool.and_eq_true,decide_eq_true_eq,decide_eq_true_eq] at hc
          simp only[Option.some.injEq,Prod.mk.injEq] at h;obtain ⟨rfl,rfl,rfl,rfl⟩:=h
          obtain ⟨cs,hsrc⟩:=gS (P:=P) (hO _ _ (G4 hys)) hC.2.1 hC.2.2.1 hx
          simp only[Cv] at hs;subst hs
          have hk':=hk
          rw[<-hc.1.2] at hk'
          exact run _ _ _ (yS hH (vX hT h0 hi ((hT _ _ hi).ek k' hk).1 hc.2) (hT _ _ hi) hk' hc.1.1 (hL _ _ hkey) (hfr rfl) hsrc (by rw[List.length_take,Nat.min_eq_left hC.2.1];exact hC.2.2.2))
         ·cases h
        ·cases h
       ·cases h
     ·rename_i e k xs k' hkey hk
      split at h
      ·rename_i ys hys
       split at h
       ·rename_i hc
        simp only[Bool.and_eq_true,decide_eq_true_eq] at hc
        simp only[Option.some.injEq,Prod.mk.injEq] at h;obtain ⟨rfl,rfl,rfl,rfl⟩:=h
        obtain ⟨cs,hsrc⟩:=QJ (P:=P) hys hO hH.mem hx
        simp only[Cv] at hs;subst hs
        have hk':=hk
        rw[<-hc.1.1.2] at hk'
        exact run _ _ _ (ZX hH (vX hT h0 hi ((hT _ _ hi).ek k' hk).1 hc.2) (hT _ _ hi) hk' hc.1.1.1 hc.1.2 (hL _ _ hkey) (hfr rfl) hsrc hC.2)
       ·cases h
      ·cases h
     ·rename_i e xss k' hkey hk
      split at h
      ·rename_i t q ys n hys
       split at h
       ·rename_i hc
        simp only[Option.some.injEq,Prod.mk.injEq] at h;obtain ⟨rfl,rfl,rfl,rfl⟩:=h
        obtain ⟨ie,rfl,p1,p2,p3,p4,p5,p6,p7,rfl⟩:=GE hys
        simp only[Cv] at hs hx;subst hs hx
        exact run _ _ _ (Q9 hH (vX hT h0 hi p4 hc) (hT _ _ hi) p4 p5 (hT _ _ p3) p6 p7 (hL _ _ hkey) (hL _ _ p1) (hL _ _ p2) (hfr rfl) hC.2)
       ·cases h
      ·cases h
     ·cases h
    ·cases h
   ·cases h
  ·cases h
 ·-- copy
  rename_i args argTypes
  split at h
  ·rename_i T key c x D h0 h1
   split at h
   ·rename_i i k n xs hi hkey
    split at h
    ·rename_i ys E hys
     split at h
     ·rename_i hc
      rw[Bool.and_eq_true,decide_eq_true_eq,beq_iff_eq] at hc
      obtain ⟨hk,rfl⟩:=hc
      simp only[Option.some.injEq,Prod.mk.injEq] at h;obtain ⟨rfl,rfl,rfl,rfl⟩:=h
      obtain ⟨u,us,hu,hsv,v,vs,hv,hx,hnil⟩:=j2 hA hg h1 hC.1
      subst hv
      simp only[CvL] at hnil;subst hnil
      have hargs:args.map a.eval=#[u,v]:=by apply Array.ext';simpa using hu
      simp only[Cv] at hsv
      rw[hsv] at hargs
      have:=Kk (P:=P) (ty:=ty) hH h0 (hT _ _ hi) hk (hL _ _ hkey) (X1 hys hC.2 hO hH.mem hx) d
      rw[<-hargs] at this
      exact this
     ·cases h
    ·cases h
   ·cases h
  ·rename_i T s x D h0 h1
   split at h
   ·rename_i i key lo hi hs
    split at h
    ·rename_i k xs k' hkey hk
     split at h
     ·rename_i ys E hys
      split at h
      ·rename_i hc
       rw[decide_eq_true_eq] at hc
       subst hc
       simp only[Option.some.injEq,Prod.mk.injEq] at h;obtain ⟨rfl,rfl,rfl,rfl⟩:=h
       obtain ⟨u,us,hu,hsv,v,vs,hv,hx,hnil⟩:=j2 hA hg h1 hC.1
       subst hv
       simp only[CvL] at hnil;subst hnil
       have hargs:args.map a.eval=#[u,v]:=by apply Array.ext';simpa using hu
       have:=uD (P:=P) (ty:=ty) hH h0 (hT _ _ hi) hk hs (hL _ _ hkey) hC.2.1 hsv (X1 hys hC.2.2 hO hH.mem hx) d
       rw[<-hargs] at this
       exact this
      ·cases h
     ·cases h
    ·cases h
   ·cases h
  ·cases h
 ·-- makeMap
  rename_i T
  split at h
  ·rename_i i hi
   split at h
   ·simp only[Option.some.injEq,Prod.mk.injEq] at h;obtain ⟨rfl,rfl,rfl,rfl⟩:=h
    exact JS hH (hfr rfl) T
   ·cases h
  ·cases h
 ·-- delete
  rename_i args argTypes
  split at h
  ·rename_i T key kn x D h0 h1
   split at h
   ·rename_i i hi hkey
    split at h
    ·rename_i hm
     simp only[Option.some.injEq,Prod.mk.injEq] at h;obtain ⟨rfl,rfl,rfl,rfl⟩:=h
     obtain ⟨u,us,hu,hsv,v,vs,hv,hx,hnil⟩:=j2 hA hg h1 hC
     subst hv
     simp only[CvL] at hnil;subst hnil
     have hargs:args.map a.eval=#[u,v]:=by apply Array.ext';simpa using hu
     simp only[Cv] at hsv hx
     rw[hsv,hx] at hargs
     have:=YW (P:=P) (ty:=ty) hH h0 (hT _ _ hi) hm (hL _ _ hkey) kn x d
     rw[<-hargs] at this
     exact this
    ·cases h
   ·cases h
  ·cases h
 ·-- clear
  rename_i args argTypes
  split at h
  ·rename_i T key D h0 h1
   split at h
   ·rename_i i hi
    split at h
    ·rename_i k xs k' hkey hk
     split at h
     ·rename_i hc
      simp only[Bool.and_eq_true,decide_eq_true_eq] at hc
      obtain ⟨rfl,hc2⟩:=hc
      simp only[Option.some.injEq,Prod.mk.injEq] at h;obtain ⟨rfl,rfl,rfl,rfl⟩:=h
      obtain ⟨u,us,hu,hsv,hnil⟩:=j2 hA hg h1 hC
      simp only[CvL] at hnil;subst hnil
      have hargs:args.map a.eval=#[u]:=by apply Array.ext';simpa using hu
      simp only[Cv] at hsv;subst hsv
      have:=ue (P:=P) (ty:=ty) hH h0 (hT _ _ hi) hk hc2 (hL _ _ hkey) d
      rw[<-hargs] at this
      exact this
     ·cases h
    ·cases h
   ·cases h
  ·rename_i T key lo D h0 h1
   split at h
   ·rename_i i hi
    split at h
    ·rename_i k xs k' hkey hk
     split at h
     ·rename_i hc
      simp only[Bool.and_eq_true,decide_eq_true_eq] at hc
      obtain ⟨rfl,hc2⟩:=hc
      simp only[Option.some.injEq,Prod.mk.injEq] at h;obtain ⟨rfl,rfl,rfl,rfl⟩:=h
      obtain ⟨u,us,hu,hsv,hnil⟩:=j2 hA hg h1 hC.1
      simp only[CvL] at hnil;subst hnil
      have hargs:args.map a.eval=#[u]:=by apply Array.ext';simpa using hu
      have:=KY (P:=P) (ty:=ty) hH h0 (hT _ _ hi) hk hc2 (hL _ _ hkey) hC.2 hsv d
      rw[<-hargs] at this
      exact this
     ·cases h
    ·cases h
   ·cases h
  ·cases h
 ·-- load
  rename_i T x
  split at h
  ·rename_i i key j f D h0 h1
   split at h
   ·rename_i e xss hk
    split at h
    ·rename_i hc
     simp only[Bool.and_eq_true,beq_iff_eq,Bool.not_eq_true',beq_eq_false_iff_ne] at hc
     obtain ⟨⟨⟨rfl,c2⟩,c3⟩,c4⟩:=hc
     simp only[Option.some.injEq,Prod.mk.injEq] at h;obtain ⟨rfl,rfl,rfl,rfl⟩:=h
     have hx:=zh hA hg h1 hC.1
     simp only[Cv] at hx
     have:=GO (P:=P) hH (hT _ _ h0) c2 c3 (hL _ _ hk) hC.2 c4 (hfr rfl)
     rw[<-hx] at this
     exact this
    ·cases h
   ·cases h
  ·cases h
 ·cases h
end
section

def vq (dst:Option Nat) (x:MV) (A:Nat->Option MV):Nat->Option MV :=
  match dst with
  | some d=>fun s=>if d==s then some x else A s
  | none=>A

theorem xS (a:Act) (dst:Option Tmp) (v:Value):(a.put dst v).tmps.size=a.tmps.size:=by
 cases dst<;>simp[Act.put]
theorem jD (a:Act) (dst:Option Tmp) (v:Value):(a.put dst v).defers=a.defers:=by
 cases dst<;>rfl

theorem xe {ρ ρ':Nat->Hd} {m m':Mem} (hm:Mle m m') {A:Nat->Option MV} {a:Act} (h:∀s x,A s=some x->∃v,a.tmps[s]? = some v/\Cv ρ m x v) {dst:Option Nat} (hd:∀d,dst=some d->d<a.tmps.size) {x:MV} {v:Value} (hv:dst≠none->Cv ρ' m' x v)
  (hρ:∀s y,A s=some y->∀k,y.has k=true->ρ' k=ρ k):∀s y,vq dst x A s=some y->∃u,(a.put dst v).tmps[s]? = some u/\Cv ρ' m' y u:=by
 intro s y hy
 cases dst with
 | none =>
  obtain ⟨u,h1,h2⟩:=h s y hy
  exact ⟨u,h1,Cv.mono hm y u (hρ s y hy) h2⟩
 | some d =>
  simp only[vq] at hy
  have hlt:=hd d rfl
  by_cases e:d=s
  ·subst e
   simp at hy;subst hy
   exact ⟨v,by simp[Act.put,hlt],hv (by simp)⟩
  ·rw[if_neg (by simpa using e)] at hy
   obtain ⟨u,h1,h2⟩:=h s y hy
   exact ⟨u,by simp[Act.put,Array.getElem?_setIfInBounds_ne e,h1],Cv.mono hm y u (hρ s y hy) h2⟩

structure Env (P:Program) where
  tab:Nat->Option TI
  tok:∀t i,tab t=some i->TOK P t i
  eqf:∀t i,tab t=some i->i.eqf=true->EqF P t i

theorem ZD {P:Program} (E:Env P) {Γ:Gd} {N:Nat} {Av:List (Nat×MV)} {Lv:List (Nat×Option MObj)} {A:Nat->Option MV} {L:Nat->Option MObj} (hA:∀s x,get Av s=some x->A s=some x) (hL:∀k o,ww Lv k=some o->L k=some o)
  {o:Oper} {r:MV} {C:Prop} (h:yc E.tab Av Lv none o.op=some (r,C)) (hC:C) (hd:∀d,o.dst=some d->d<N) {a:Act} {w:World} (hs:Sat Γ N A L a w) (Q:Exit->Act->World->Prop) :
  o.wp P a w (fun a' w'=>Sat Γ N (vq o.dst r A) L a' w') Q:=by
 obtain ⟨h1,h2,ρ,m,h3,h4,h5,h6⟩:=hs
 obtain ⟨v,hv,hc⟩:=Xu E.tok E.eqf (.inl rfl) h hC (ρ:=ρ) (m:=m) (a:=a) (w:=w) (fun s x hx=>h3 s x (hA s x hx)) (fun k o hk=>h4.obj k o (hL k o hk)) h4.mem
 unfold Oper.wp
 rw[hv]
 exact ⟨by rw[xS];exact h1,by rw[jD];exact h2,ρ,m,xe (Mle.refl m) h3 (fun d e=>h1▸hd d e) (fun _=>hc) (fun _ _ _ _ _=>rfl),h4,h5,h6⟩

theorem yY {P:Program} (E:Env P) {Γ:Gd} {N:Nat} {Av:List (Nat×MV)} {Lv:List (Nat×Option MObj)} {A:Nat->Option MV} {L:Nat->Option MObj} (hA:∀s x,get Av s=some x->A s=some x) (hL:∀k o,ww Lv k=some o->L k=some o)
  {o:Oper} {d:Nat} {mv:MV} {U:List (Nat×Option MObj)} {fr:Bool} {C:Prop} (h:vm E.tab Av Lv none d o.op=some (mv,U,fr,C)) (hC:C) (hd:∀d,o.dst=some d->d<N) (hd':fr=false->o.dst=none\/valued mv=true)
  (hk:fr=true->1000<=d) (hfr:fr=true->∀k o,L k=some o->k≠d->o.has d=false) (hAf:fr=true->∀s x,A s=some x->x.has d=false) {a:Act} {w:World} (hs:Sat Γ N A L a w) (Q:Exit->Act->World->Prop) :
  o.wp P a w (fun a' w'=>Sat Γ N (vq o.dst mv A) (qQ U L) a' w') Q:=by
 obtain ⟨h1,h2,ρ,m,h3,h4,h5,h6⟩:=hs
 obtain ⟨nx,w',ρ',r1,r2,r3,r4,r5,r6⟩:=uB E.tok (.inl rfl) h hC (X:=Γ.X) (ρ:=ρ) (m:=m) (a:=a) (w:=w) (fun s x hx=>h3 s x (hA s x hx)) hL h4 hfr (fun e s x hx=>hAf e s x (hA s x hx))
 have hρ:∀s y,A s=some y->∀k,y.has k=true->ρ' k=ρ k:=by
  intro s y hy k hk'
  cases fr with
  | false=>rw[r6 rfl]
  | true=>exact r5 k (fun e=>by rw[e,hAf rfl s y hy] at hk';cases hk')
 have fin:∀v,(o.dst≠none->Cv ρ' m mv v)->Sat Γ N (vq o.dst mv A) (qQ U L) (a.put o.dst v) w':=fun v hv =>
  ⟨by rw[xS];exact h1,by rw[jD];exact h2,ρ',m,xe (Mle.refl m) h3 (fun d e=>h1▸hd d e) hv hρ,r3,h5.trans r4,fun k hk'=>by
   cases fr with
   | false=>rw[r6 rfl];exact h6 k hk'
   | true=>rw[r5 k (fun e=>by have:=hk rfl;omega)];exact h6 k hk'⟩
 unfold Oper.wp
 rw[r1]
 rcases r2 with ⟨v,rfl,hc⟩|⟨rfl,hf,hm⟩
 ·exact fin v (fun _=>hc)
 ·exact fin undef (fun e=>absurd ((hd' hf).resolve_right (by rw[hm];decide)) e)

theorem vK {P:Program} (E:Env P) {Γ:Gd} {N:Nat} {Av:List (Nat×MV)} {Lv:List (Nat×Option MObj)} {A:Nat->Option MV} {L:Nat->Option MObj} (hA:∀s x,get Av s=some x->A s=some x) (hL:∀k o,ww Lv k=some o->L k=some o)
  {ops:Array Oper} {o oj:Oper} {j dj d:Nat} {want g:Bool} (hgd:o.guard=some (j,want)) (hj:ops[j]? = some oj) (hdj:oj.dst=some dj)
  (hg:(∃b,get Av dj=some (.bool b)/\g=(if want then b else !b))\/∃t b,get Av dj=some (.cnd t (.bool b))/\g=(t&&(if want then b else !b)))
  {r:MV} {C:Prop} (h:yc E.tab Av Lv (some g) o.op=some (r,C)) (hC:g=true->C) (hdst:o.dst=some d) (hd:d<N) {a:Act} {w:World} (hs:Sat Γ N A L a w) (Q:Exit->Act->World->Prop) (K:Act->World->Prop)
  (hK:∀a w,Sat Γ N (vq (some d) (.cnd g r) A) L a w->K a w):if Region.wanted o (yielded ops a.tmps) then o.wp P a w K Q else K (a.put o.dst undef) w:=by
 obtain ⟨h1,h2,ρ,m,h3,h4,h5,h6⟩:=hs
 have hwant:Region.wanted o (yielded ops a.tmps)=g:=by
  unfold Region.wanted
  rw[hgd]
  simp only[yielded,hj,Option.bind_some,hdj]
  rcases hg with ⟨b,hb,rfl⟩|⟨t,b,hb,rfl⟩
  ·obtain ⟨v,hv,hc⟩:=h3 dj _ (hA _ _ hb)
   simp only[Cv] at hc;subst hc
   rw[hv];cases want<;>cases b<;>rfl
  ·obtain ⟨v,hv,hc⟩:=h3 dj _ (hA _ _ hb)
   rw[hv]
   cases t with
   | true =>
    have:=hc.1 rfl
    simp only[Cv] at this;subst this
    cases want<;>cases b<;>rfl
   | false =>
    have:=hc.2 rfl;subst this
    cases want<;>cases b<;>rfl
 have fin:∀v,((g=true->Cv ρ m r v)/\(g=false->v=.tuple #[]))->Sat Γ N (vq (some d) (.cnd g r) A) L (a.put (some d) v) w:=fun v hv =>
  ⟨by rw[xS];exact h1,by rw[jD];exact h2,ρ,m,xe (Mle.refl m) h3 (fun d' e=>by cases e;rw[h1];exact hd) (fun _=>hv) (fun _ _ _ _ _=>rfl),h4,h5,h6⟩
 rw[hwant,hdst]
 cases hgv:g with
 | true =>
  subst hgv
  simp only[if_true]
  obtain ⟨v,hv,hc⟩:=Xu E.tok E.eqf (.inr rfl) h (hC rfl) (ρ:=ρ) (m:=m) (a:=a) (w:=w) (fun s x hx=>h3 s x (hA s x hx)) (fun k o hk=>h4.obj k o (hL k o hk)) h4.mem
  unfold Oper.wp
  rw[hv]
  simp only[Oper.upon,hdst]
  exact hK _ _ (fin v ⟨fun _=>hc,fun e=>(by cases e)⟩)
 | false =>
  subst hgv
  simp only[Bool.false_eq_true,if_false]
  exact hK _ _ (fin undef ⟨fun e=>(by cases e),fun _=>rfl⟩)
end
end Go.Fo
