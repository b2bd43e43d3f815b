/- The engine of this proof, part 1. -/
import Derived.Calls
import Derived.Orders
import Derived.Tactics
import Derived.KernelRfl
import Derived.Laws.BytesString
import Derived.ChangeSame
import Derived.ReadAgain
import Derived.RowKit3
import Derived.WideShapes
import Derived.Laws.StructEq
import Derived.ChangeKeysEq
import Derived.Lib.UnsafeStr
import Derived.Laws.IdiomStrings
namespace Go.Fo
abbrev Li:=List Int
section

abbrev Mem:=Nat->Option Obj
def Mle (m m':Mem):Prop:=∀b o,m b=some o->m' b=some o
theorem Mle.refl (m:Mem):Mle m m:=fun _ _ h=>h
theorem Mle.trans {a b c:Mem} (h:Mle a b) (k:Mle b c):Mle a c:=fun x o e=>k x o (h x o e)

inductive Kd where
  | int (k:IntKind)|bool|str|slice (e:Kd)|pair (a b:Kd)|unit|ptr|hdr
  deriving DecidableEq
@[reducible] def Kd.T:Kd->Type
  | .int _=>Int|.bool=>Bool|.str=>ByteArray|.slice e=>List e.T|.pair a b=>a.T×b.T|.unit=>Unit|.ptr=>Option Addr|.hdr=>Option (Nat×Nat×Nat)
def Kd.n:Kd->Nat
  | .int _=>1|.bool=>1|.str=>1|.slice _=>1|.pair a b=>a.n+b.n|.unit=>0|.ptr=>1|.hdr=>1
def hval:Option (Nat×Nat×Nat)->Value
  | none=>.slice none 0 0
  | some (b,l,c)=>.slice (some ⟨b,0,none⟩) l c

def SlR {α:Type} (m:Mem) (sz:Nat) (R:α->List Value->Prop) (l:List α) (v:Value):Prop :=
  (∃a,v=.slice a 0 0/\l=[])\/∃b off cap cells T fr,v=.slice (some ⟨b,off,none⟩) l.length cap/\l.length<=cap ∧
    m b=some (.cells cells T fr)/\off+l.length*sz<=cells.size/\∀i (h:i<l.length),R l[i] ((cells.toList.drop (off+i*sz)).take sz)

def Kd.R (m:Mem):(k:Kd)->k.T->List Value->Prop
  | .int k,x,cs=>cs=[.int k x]
  | .bool,x,cs=>cs=[.bool x]
  | .str,x,cs=>cs=[.string x]
  | .slice e,l,cs=>∃v,cs=[v]/\SlR m e.n (e.R m) l v
  | .pair a b,x,cs=>∃c d,cs=c++d/\a.R m x.1 c/\b.R m x.2 d
  | .unit,_,cs=>cs=[]
  | .ptr,x,cs=>cs=[.pointer x]
  | .hdr,x,cs=>cs=[hval x]

theorem SlR.mono {α:Type} {m m':Mem} (h:Mle m m') {sz:Nat} {R R':α->List Value->Prop} (hr:∀x cs,R x cs->R' x cs) {l:List α} {v:Value} (k:SlR m sz R l v):SlR m' sz R' l v:=by
 rcases k with k|⟨b,off,cap,cells,T,fr,h1,h2,h3,h4,h5⟩
 ·exact .inl k
 ·exact .inr ⟨b,off,cap,cells,T,fr,h1,h2,h _ _ h3,h4,fun i hi=>hr _ _ (h5 i hi)⟩

theorem Kd.R.mono {m m':Mem} (h:Mle m m'):∀(k:Kd) (x:k.T) (cs:List Value),k.R m x cs->k.R m' x cs
 | .int _,_,_,r=>r
 | .bool,_,_,r=>r
 | .str,_,_,r=>r
 | .slice e,_,_,⟨v,hv,r⟩=>⟨v,hv,SlR.mono h (fun x cs=>Kd.R.mono h e x cs) r⟩
 | .pair a b,x,_,⟨c,d,e,r,s⟩=>⟨c,d,e,Kd.R.mono h a x.1 c r,Kd.R.mono h b x.2 d s⟩
 | .unit,_,_,r=>r
 | .ptr,_,_,r=>r
 | .hdr,_,_,r=>r

theorem Kd.R.len {m:Mem}:∀(k:Kd) (x:k.T) (cs:List Value),k.R m x cs->cs.length=k.n
 | .int _,_,_,r=>by rw[r];rfl
 | .bool,_,_,r=>by rw[r];rfl
 | .str,_,_,r=>by rw[r];rfl
 | .slice e,_,_,⟨v,hv,_⟩=>by rw[hv];rfl
 | .pair a b,x,_,⟨c,d,e,r,s⟩=>by rw[e,List.length_append,Kd.R.len a _ _ r,Kd.R.len b _ _ s];rfl
 | .unit,_,_,r=>by rw[r];rfl
 | .ptr,_,_,r=>by rw[r];rfl
 | .hdr,_,_,r=>by rw[r];rfl

inductive MV where
  | int (k:IntKind) (x:Int)|bool (b:Bool)|str (s:ByteArray)
  | nilp|nils|nilf|nili|nilm
  | p (key off:Nat)
  | pe (key i f:Nat)
  | im (k:Kd) (x:k.T)
  | pim (k:Kd) (x:k.T)
  | sl (key:Nat)
  | mp (key:Nat)
  | hd (key n:Nat)
  | sv (key lo:Nat)
  | sp (key n:Nat)
  | pf (key o j:Nat)
  | agg (l:List MV)|tup (l:List MV)
  | fn (f:FuncId) (l:List MV)
  | ifc (t:TypeId) (x:MV)
  | bm (f:FuncId) (x:MV)
  | cnd (t:Bool) (x:MV)
  | raw (v:Value)
instance:Inhabited MV:=⟨.nilp⟩

structure Hd where
  blk:Nat
  len:Nat
  cap:Nat
  nil:Bool
  sz:Nat
def Hd.hdr (h:Hd):Value:=if h.nil then .slice none 0 0 else .slice (some ⟨h.blk,0,none⟩) h.len h.cap

mutual
def Cv (ρ:Nat->Hd) (m:Mem):MV->Value->Prop
  | .int k x,v=>v=.int k x
  | .bool b,v=>v=.bool b
  | .str s,v=>v=.string s
  | .nilp,v=>v=.pointer none
  | .nils,v=>v=.slice none 0 0
  | .nilf,v=>v=.nilFunc
  | .nili,v=>v=.nilIface
  | .nilm,v=>v=.map none
  | .p key off,v=>v=.pointer (some ⟨(ρ key).blk,off,none⟩)
  | .pe key i f,v=>v=.pointer (some ⟨(ρ key).blk,i*(ρ key).sz+f,none⟩)
  | .im k x,v=>k.R m x [v]
  | .pim k x,v=>∃b off cells T fr,v=.pointer (some ⟨b,off,none⟩)/\m b=some (.cells cells T fr)/\off+k.n<=cells.size/\k.R m x ((cells.toList.drop off).take k.n)
  | .sl key,v=>v=(ρ key).hdr
  | .mp key,v=>v=.map (some (ρ key).blk)
  | .hd key n,v=>v=.slice (some ⟨(ρ key).blk,0,none⟩) n n
  | .sv key lo,v=>v=.slice (some ⟨(ρ key).blk,lo*(ρ key).sz,none⟩) ((ρ key).len-lo) ((ρ key).cap-lo)
  | .sp key n,v=>v=.slice (some ⟨(ρ key).blk,0,none⟩) n (ρ key).cap
  | .pf key o j,v=>v=.pointer (some ⟨(ρ key).blk,o+j,none⟩)
  | .agg l,v=>∃vs:List Value,v=.agg vs.toArray/\CvL ρ m l vs
  | .tup l,v=>∃vs:List Value,v=.tuple vs.toArray/\CvL ρ m l vs
  | .fn f l,v=>∃vs:List Value,v=.func (.func f) #[] vs.toArray/\CvL ρ m l vs
  | .ifc t x,v=>∃y,v=.iface t y/\Cv ρ m x y
  | .bm f x,v=>∃y,v=.func (.func f) #[y] #[]/\Cv ρ m x y
  | .cnd t x,v=>(t=true->Cv ρ m x v)/\(t=false->v=.tuple #[])
  | .raw u,v=>v=u
def CvL (ρ:Nat->Hd) (m:Mem):List MV->List Value->Prop
  | [],vs=>vs=[]
  | x::l,vs=>∃v us,vs=v::us/\Cv ρ m x v/\CvL ρ m l us
end

-- the keys that a value mentions
mutual
def MV.has (d:Nat):MV->Bool
  | .p k _=>k==d
  | .pe k _ _=>k==d
  | .sl k=>k==d
  | .mp k=>k==d
  | .hd k _=>k==d
  | .sv k _=>k==d
  | .sp k _=>k==d
  | .pf k _ _=>k==d
  | .agg l=>MV.hasL d l
  | .tup l=>MV.hasL d l
  | .fn _ l=>MV.hasL d l
  | .ifc _ x=>x.has d
  | .bm _ x=>x.has d
  | .cnd _ x=>x.has d
  | _=>false
def MV.hasL (d:Nat):List MV->Bool
  | []=>false
  | x::l=>x.has d||MV.hasL d l
end

mutual
theorem Cv.mono {ρ ρ':Nat->Hd} {m m':Mem} (h:Mle m m'):∀(x:MV) (v:Value),(∀d,x.has d=true->ρ' d=ρ d)->Cv ρ m x v->Cv ρ' m' x v
  | .int _ _,_,_,r=>r
  | .bool _,_,_,r=>r
  | .str _,_,_,r=>r
  | .nilp,_,_,r=>r
  | .nils,_,_,r=>r
  | .nilf,_,_,r=>r
  | .nili,_,_,r=>r
  | .nilm,_,_,r=>r
  | .p k off,_,e,r=>by
    have:=e k (by simp[MV.has]);simp only[Cv] at r ⊢;rw[this];exact r
  | .pe k i f,_,e,r=>by
    have:=e k (by simp[MV.has]);simp only[Cv] at r ⊢;rw[this];exact r
  | .im k x,_,_,r=>Kd.R.mono h k x _ r
  | .pim k x,_,_,⟨b,off,cells,T,fr,h1,h2,h3,h4⟩=>⟨b,off,cells,T,fr,h1,h _ _ h2,h3,Kd.R.mono h k x _ h4⟩
  | .sl k,_,e,r=>by
    have:=e k (by simp[MV.has]);simp only[Cv] at r ⊢;rw[this];exact r
  | .mp k,_,e,r=>by
    have:=e k (by simp[MV.has]);simp only[Cv] at r ⊢;rw[this];exact r
  | .hd k _,_,e,r=>by
    have:=e k (by simp[MV.has]);simp only[Cv] at r ⊢;rw[this];exact r
  | .sv k _,_,e,r=>by
    have:=e k (by simp[MV.has]);simp only[Cv] at r ⊢;rw[this];exact r
  | .sp k _,_,e,r=>by
    have:=e k (by simp[MV.has]);simp only[Cv] at r ⊢;rw[this];exact r
  | .pf k _ _,_,e,r=>by
    have:=e k (by simp[MV.has]);simp only[Cv] at r ⊢;rw[this];exact r
  | .agg l,_,e,⟨vs,hv,r⟩=>⟨vs,hv,CvL.mono h l vs (fun d hd=>e d (by simpa [MV.has] using hd)) r⟩
  | .tup l,_,e,⟨vs,hv,r⟩=>⟨vs,hv,CvL.mono h l vs (fun d hd=>e d (by simpa [MV.has] using hd)) r⟩
  | .fn f l,_,e,⟨vs,hv,r⟩=>⟨vs,hv,CvL.mono h l vs (fun d hd=>e d (by simpa [MV.has] using hd)) r⟩
  | .ifc t x,_,e,⟨y,hv,r⟩=>⟨y,hv,Cv.mono h x y (fun d hd=>e d (by simpa [MV.has] using hd)) r⟩
  | .bm t x,_,e,⟨y,hv,r⟩=>⟨y,hv,Cv.mono h x y (fun d hd=>e d (by simpa [MV.has] using hd)) r⟩
  | .cnd t x,v,e,r=>⟨fun ht=>Cv.mono h x v (fun d hd=>e d (by simpa [MV.has] using hd)) (r.1 ht),r.2⟩
  | .raw _,_,_,r=>r
theorem CvL.mono {ρ ρ':Nat->Hd} {m m':Mem} (h:Mle m m'):∀(l:List MV) (vs:List Value),(∀d,MV.hasL d l=true->ρ' d=ρ d)->CvL ρ m l vs->CvL ρ' m' l vs
  | [],_,_,r=>r
  | x::l,_,e,⟨v,us,hv,r,s⟩=>⟨v,us,hv,Cv.mono h x v (fun d hd=>e d (by simp[MV.hasL,hd])) r,CvL.mono h l us (fun d hd=>e d (by simp[MV.hasL,hd])) s⟩
end

theorem CvL.length {ρ:Nat->Hd} {m:Mem}:∀{l:List MV} {vs:List Value},CvL ρ m l vs->vs.length=l.length
 | [],_,h=>by rw[h];rfl
 | _::l,_,⟨_,us,h,_,r⟩=>by rw[h,List.length_cons,List.length_cons,CvL.length r]

theorem CvL.get {ρ:Nat->Hd} {m:Mem}:∀{l:List MV} {vs:List Value},CvL ρ m l vs->∀(i:Nat) (x:MV),l[i]? = some x->∃v,vs[i]? = some v/\Cv ρ m x v
 | [],_,_,i,x,hx=>by simp at hx
 | y::l,_,⟨v,us,h,r,s⟩,0,x,hx=>by simp at hx;subst hx;subst h;exact ⟨v,rfl,r⟩
 | y::l,_,⟨v,us,h,r,s⟩,i+1,x,hx=>by
  subst h;simp at hx;obtain ⟨u,hu,hc⟩:=CvL.get s i x hx;exact ⟨u,by simpa using hu,hc⟩

theorem CvL.append {ρ:Nat->Hd} {m:Mem}:∀{l l':List MV} {vs vs':List Value},CvL ρ m l vs->CvL ρ m l' vs'->CvL ρ m (l++l') (vs++vs')
 | [],_,_,_,h,k=>by rw[h];exact k
 | x::l,_,_,_,⟨v,us,h,r,s⟩,k=>⟨v,us++_,by rw[h];rfl,r,CvL.append s k⟩

theorem CvL.drop {ρ:Nat->Hd} {m:Mem}:∀{l:List MV} {vs:List Value} (n:Nat),CvL ρ m l vs->CvL ρ m (l.drop n) (vs.drop n)
 | [],_,n,h=>by rw[h];simp[CvL]
 | x::l,_,0,h=>by simpa using h
 | x::l,_,n+1,⟨v,us,h,r,s⟩=>by rw[h];simpa using CvL.drop n s

theorem CvL.take {ρ:Nat->Hd} {m:Mem}:∀{l:List MV} {vs:List Value} (n:Nat),CvL ρ m l vs->CvL ρ m (l.take n) (vs.take n)
 | [],_,n,h=>by rw[h];simp[CvL]
 | x::l,_,0,h=>by simp[CvL]
 | x::l,_,n+1,⟨v,us,h,r,s⟩=>by rw[h];simp only[List.take_succ_cons];exact ⟨v,_,rfl,r,CvL.take n s⟩

theorem CvL.set {ρ:Nat->Hd} {m:Mem} {x:MV} {v:Value} (hv:Cv ρ m x v):∀{l:List MV} {vs:List Value} (n:Nat),CvL ρ m l vs->CvL ρ m (l.set n x) (vs.set n v)
 | [],_,n,h=>by rw[h];simp[CvL]
 | y::l,_,0,⟨u,us,h,r,s⟩=>by rw[h];exact ⟨v,us,rfl,hv,s⟩
 | y::l,_,n+1,⟨u,us,h,r,s⟩=>by rw[h];exact ⟨u,_,rfl,r,CvL.set hv n s⟩

structure Abs where
  R:Mem->List Value->Prop
  mono:∀{m m':Mem},Mle m m'->∀vs,R m vs->R m' vs

inductive MObj where
  | cells (cs:List MV)
  | rows (k:Kd) (xs:List k.T)
  | ab (a:Abs)
  | foc (pre cs post:List MV)
  | bld (T:Nat) (o:Option Nat)
  | brw (e:Nat) (k:Kd) (xs:List k.T)
  | hrow (s:Nat) (cs:List MV)
  | rr (own:Bool) (e:Kd) (xss:List (List e.T)) (h:Option (Nat×MV))
  | arr (k:Kd) (n:Nat) (xs:List k.T)
  | emp

def UL (ρ:Nat->Hd):Option Nat->Value
  | none=>.slice none 0 0
  | some k=>(ρ k).hdr

def MObj.has (d:Nat):MObj->Bool
  | .cells cs=>MV.hasL d cs
  | .rows _ _=>false
  | .ab _=>false
  | .foc _ cs _=>MV.hasL d cs
  | .bld _ o=>o==some d
  | .brw _ _ _=>false
  | .hrow _ cs=>MV.hasL d cs
  | .arr _ _ _=>false
  | .emp=>false
  | .rr _ _ _ h=>match h with|some (_,x)=>x.has d|none=>false

def rowok (m:Mem) (w:World) (own:Bool) (e:Kd) (x:List e.T) (v:Value):Prop :=
  match own with
  | false=>(Kd.slice e).R m x [v]
  | true=>(v=.slice none 0 0/\x=[])\/∃b cap vs T,v=.slice (some ⟨b,0,none⟩) x.length cap/\x.length<=cap/\w.heap[b]? = some (.cells (List.toArray vs) T (0,0))/\vs.length=cap*e.n ∧
      ∀i (h:i<x.length),e.R m x[i] ((vs.drop (i*e.n)).take e.n)
def hole (h:Option (Nat×MV)):Option Nat:=h.map (·.1)

def osat (ρ:Nat->Hd) (m:Mem) (w:World) (key:Nat):MObj->Prop
  | .cells cs=>(ρ key).nil=false/\∃vs T,w.heap[(ρ key).blk]? = some (.cells (List.toArray vs) T (0,0))/\CvL ρ m cs vs
  | .rows k xs=>(ρ key).len=xs.length/\(ρ key).sz=k.n/\((ρ key).nil=true/\xs=[] ∨
      (ρ key).nil=false/\xs.length<=(ρ key).cap/\∃vs T,w.heap[(ρ key).blk]? = some (.cells (List.toArray vs) T (0,0))/\vs.length=(ρ key).cap*k.n ∧
        ∀i (h:i<xs.length),k.R m xs[i] ((vs.drop (i*k.n)).take k.n))
  | .ab a=>(ρ key).nil=false/\∃vs T,w.heap[(ρ key).blk]? = some (.cells (List.toArray vs) T (0,0))/\a.R m vs
  | .foc pre cs post=>(ρ key).nil=false/\∃v1 v2 v3 T,w.heap[(ρ key).blk]? = some (.cells (List.toArray (v1++(v2++v3))) T (0,0))/\CvL (fun _=>⟨0,0,0,false,0⟩) m pre v1/\CvL ρ m cs v2/\CvL (fun _=>⟨0,0,0,false,0⟩) m post v3
  | .bld T o=>(ρ key).nil=false/\∃p,w.heap[(ρ key).blk]? = some (.cells (List.toArray [p,UL ρ o]) T (0,0))/\(p=.pointer none\/p=.pointer (some ⟨(ρ key).blk,0,none⟩))
  | .brw e k xs=>(ρ key).len=xs.length/\(ρ key).sz=k.n/\((ρ key).nil=true/\xs=[] ∨
      (ρ key).nil=false/\xs.length<=(ρ key).cap/\∃vs,w.heap[(ρ key).blk]? = some (.cells (List.toArray vs) e (0,0))/\vs.length=(ρ key).cap*k.n ∧
        ∀i (h:i<xs.length),k.R m xs[i] ((vs.drop (i*k.n)).take k.n))
  | .hrow s cs=>(ρ key).len*s=cs.length/\((ρ key).sz=s/\1<=s)/\(ρ key).nil=false/\(ρ key).len<=(ρ key).cap/\∃vs T,w.heap[(ρ key).blk]? = some (.cells (List.toArray vs) T (0,0))/\vs.length=(ρ key).cap*s/\CvL ρ m cs (vs.take cs.length)
  | .emp=>(ρ key).nil=false/\∃c,w.heap[(ρ key).blk]? = some (.map #[] c)
  | .arr k n xs=>(ρ key).nil=false/\xs.length=n/\∃vs T,w.heap[(ρ key).blk]? = some (.cells (List.toArray vs) T (0,0))/\vs.length=n*k.n/\∀i (h:i<xs.length),k.R m xs[i] ((vs.drop (i*k.n)).take k.n)
  | .rr own e xss h=>(ρ key).len=xss.length/\(ρ key).sz=1/\((ρ key).nil=true/\xss=[]/\h=none ∨
      (ρ key).nil=false/\xss.length<=(ρ key).cap/\∃vs T,w.heap[(ρ key).blk]? = some (.cells (List.toArray vs) T (0,0))/\vs.length=(ρ key).cap ∧
        (∀i (hi:i<xss.length),hole h≠some i->∃v,vs[i]? = some v/\rowok m w own e xss[i] v)/\(∀j x,h=some (j,x)->∃v,vs[j]? = some v/\Cv ρ m x v) ∧
        (own=true->∀i j b l c l' c',i<xss.length->j<xss.length->hole h≠some i->hole h≠some j->vs[i]? = some (.slice (some ⟨b,0,none⟩) l c)->vs[j]? = some (.slice (some ⟨b,0,none⟩) l' c')->i=j))

def foot (ρ:Nat->Hd) (key b:Nat):Prop:=(ρ key).nil=false/\b=(ρ key).blk
def inner (ρ:Nat->Hd) (w:World) (key:Nat) (o:MObj) (b:Nat):Prop :=
  match o with
  | .rr own _ xss h=>own=true/\(ρ key).nil=false/\∃vs T i l c,w.heap[(ρ key).blk]? = some (.cells (List.toArray vs) T (0,0))/\i<xss.length/\hole h≠some i/\vs[i]? = some (.slice (some ⟨b,0,none⟩) l c)
  | _=>False
theorem xG {ρ ρ':Nat->Hd} {w w':World} {key:Nat} (hρ:ρ' key=ρ key) (hb:(ρ key).nil=false->w'.heap[(ρ key).blk]? = w.heap[(ρ key).blk]?) (o:MObj) (b:Nat):inner ρ' w' key o b↔inner ρ w key o b:=by
 cases o with
 | rr own e xss h =>
  simp only[inner]
  rw[hρ]
  constructor
  ·rintro ⟨h0,hn,vs,T,i,l,c,h1,h2⟩;exact ⟨h0,hn,vs,T,i,l,c,(hb hn)▸h1,h2⟩
  ·rintro ⟨h0,hn,vs,T,i,l,c,h1,h2⟩;exact ⟨h0,hn,vs,T,i,l,c,(hb hn).symm▸h1,h2⟩
 | _=>exact Iff.rfl

theorem osat.mono {ρ ρ':Nat->Hd} {m m':Mem} {w w':World} (h:Mle m m') {key:Nat}:∀{o:MObj},(∀d,o.has d=true->ρ' d=ρ d)->ρ' key=ρ key →
  (∀b,foot ρ key b->w'.heap[b]? = w.heap[b]?)->(∀b,inner ρ w key o b->w'.heap[b]? = w.heap[b]?)->osat ρ m w key o->osat ρ' m' w' key o
 | .cells cs,e,ek,hw,_,⟨hn,vs,T,h1,h2⟩=>by
  refine ⟨by rw[ek];exact hn,vs,T,?_,CvL.mono h cs vs e h2⟩
  rw[ek,hw _ ⟨hn,rfl⟩];exact h1
 | .rows k xs,e,ek,hw,_,⟨h1,h2,h3⟩=>by
  refine ⟨by rw[ek];exact h1,by rw[ek];exact h2,?_⟩
  rw[ek]
  rcases h3 with h3|⟨hn,hc,vs,T,g1,g2,g3⟩
  ·exact .inl h3
  ·exact .inr ⟨hn,hc,vs,T,by rw[hw _ ⟨hn,rfl⟩];exact g1,g2,fun i hi=>Kd.R.mono h k _ _ (g3 i hi)⟩
 | .ab a,_,ek,hw,_,⟨hn,vs,T,h1,h2⟩=>by
  refine ⟨by rw[ek];exact hn,vs,T,?_,a.mono h vs h2⟩
  rw[ek,hw _ ⟨hn,rfl⟩];exact h1
 | .foc pre cs post,e,ek,hw,_,⟨hn,v1,v2,v3,T,h1,h2,h3,h4⟩=>by
  refine ⟨by rw[ek];exact hn,v1,v2,v3,T,?_,CvL.mono h pre v1 (fun _ _=>rfl) h2,CvL.mono h cs v2 e h3,CvL.mono h post v3 (fun _ _=>rfl) h4⟩
  rw[ek,hw _ ⟨hn,rfl⟩];exact h1
 | .bld T o,e,ek,hw,_,⟨hn,p,h1,h2⟩=>by
  refine ⟨by rw[ek];exact hn,p,?_,by rw[ek];exact h2⟩
  have hb:UL ρ' o=UL ρ o:=by
   cases o with
   | none=>rfl
   | some k=>show (ρ' k).hdr=(ρ k).hdr;rw[e k (by simp[MObj.has])]
  rw[ek,hw _ ⟨hn,rfl⟩,hb];exact h1
 | .brw _ k xs,e,ek,hw,_,⟨h1,h2,h3⟩=>by
  refine ⟨by rw[ek];exact h1,by rw[ek];exact h2,?_⟩
  rw[ek]
  rcases h3 with h3|⟨hn,hc,vs,g1,g2,g3⟩
  ·exact .inl h3
  ·exact .inr ⟨hn,hc,vs,by rw[hw _ ⟨hn,rfl⟩];exact g1,g2,fun i hi=>Kd.R.mono h k _ _ (g3 i hi)⟩
 | .emp,_,ek,hw,_,⟨hn,c,g1⟩=>⟨by rw[ek];exact hn,c,by rw[ek,hw _ ⟨hn,rfl⟩];exact g1⟩
 | .arr k n xs,_,ek,hw,_,⟨hn,hl,vs,T,g1,g2,g3⟩=>by
  exact ⟨by rw[ek];exact hn,hl,vs,T,by rw[ek,hw _ ⟨hn,rfl⟩];exact g1,g2,fun i hi=>Kd.R.mono h k _ _ (g3 i hi)⟩
 | .hrow s cs,e,ek,hw,_,⟨h1,h2,hn,hc,vs,T,g1,g2,g3⟩=>by
  refine ⟨by rw[ek];exact h1,by rw[ek];exact h2,by rw[ek];exact hn,by rw[ek];exact hc,vs,T,?_,by rw[ek];exact g2,CvL.mono h cs _ e g3⟩
  rw[ek,hw _ ⟨hn,rfl⟩];exact g1
 | .rr own k xss hh,e,ek,hw,hi,⟨h1,h2,h3⟩=>by
  refine ⟨by rw[ek];exact h1,by rw[ek];exact h2,?_⟩
  rw[ek]
  rcases h3 with h3|⟨hn,hc,vs,T,g1,g2,g3,g4,g5⟩
  ·exact .inl h3
  ·refine .inr ⟨hn,hc,vs,T,by rw[hw _ ⟨hn,rfl⟩];exact g1,g2,fun i hl hne=>?_,fun j x hj=>?_,g5⟩
   ·obtain ⟨v,hv,hr⟩:=g3 i hl hne
    refine ⟨v,hv,?_⟩
    cases own with
    | false=>exact Kd.R.mono h _ _ _ hr
    | true =>
     rcases hr with hr|⟨b,cap,us,T',r1,r2,r3,r4,r5⟩
     ·exact .inl hr
     ·exact .inr ⟨b,cap,us,T',r1,r2,by rw[hi b ⟨rfl,hn,vs,T,i,_,_,g1,hl,hne,r1▸hv⟩];exact r3,r4,fun j hj=>Kd.R.mono h k _ _ (r5 j hj)⟩
   ·obtain ⟨v,hv,hr⟩:=g4 j x hj
    exact ⟨v,hv,Cv.mono h x v (fun d hd=>e d (by subst hj;exact hd)) hr⟩

structure Hp (X:Nat->Prop) (ρ:Nat->Hd) (m:Mem) (L:Nat->Option MObj) (w:World):Prop where
  mem:∀b o,m b=some o->w.heap[b]? = some o
  obj:∀k o,L k=some o->osat ρ m w k o
  dj:∀k o k' o' b,L k=some o->L k'=some o'->foot ρ k b->foot ρ k' b->k=k'
  djm:∀k o b,L k=some o->foot ρ k b->m b=none
  djX:∀k o b,L k=some o->foot ρ k b->¬X b
  lt:∀b,X b->b<w.heap.size
  inn:∀k o b,L k=some o->inner ρ w k o b->m b=none/\¬X b/\(∀k' o',L k'=some o'->¬foot ρ k' b)/\∀k' o',L k'=some o'->inner ρ w k' o' b->k=k'

structure Nx (X:Nat->Prop) (m m':Mem) (w w':World):Prop where
  le:Mle m m'
  nm:∀b,X b->m' b=m b
  un:∀b,X b->w'.heap[b]? = w.heap[b]?
  size:w.heap.size<=w'.heap.size
  os:w'.os=w.os
  out:w'.output=w.output
  tape:w'.tape=w.tape

theorem Nx.refl (X:Nat->Prop) (m:Mem) (w:World):Nx X m m w w:=⟨Mle.refl m,fun _ _=>rfl,fun _ _=>rfl,Nat.le_refl _,rfl,rfl,rfl⟩
theorem Nx.trans {X:Nat->Prop} {m m' m'':Mem} {w w' w'':World} (h:Nx X m m' w w') (k:Nx X m' m'' w' w''):Nx X m m'' w w'' :=
 ⟨h.le.trans k.le,fun b hb=>(k.nm b hb).trans (h.nm b hb),fun b hb=>(k.un b hb).trans (h.un b hb),Nat.le_trans h.size k.size,k.os.trans h.os,k.out.trans h.out,k.tape.trans h.tape⟩

theorem xy {X:Nat->Prop} {ρ:Nat->Hd} {m:Mem} {L:Nat->Option MObj} {w:World} (h:Hp X ρ m L w) {k:Nat} {o:MObj} {b:Nat} (hk:L k=some o) (hf:foot ρ k b):b<w.heap.size:=by
 have ho:=h.obj k o hk
 have key:∀x,w.heap[b]? = some x->b<w.heap.size:=fun x hx=>(Array.getElem?_eq_some_iff.1 hx).1
 obtain ⟨hn,rfl⟩:=hf
 cases o with
 | cells cs=>obtain ⟨_,vs,T,h1,_⟩:=ho;exact key _ h1
 | ab a=>obtain ⟨_,vs,T,h1,_⟩:=ho;exact key _ h1
 | foc pre cs post=>obtain ⟨_,v1,v2,v3,T,h1,_⟩:=ho;exact key _ h1
 | bld T o=>obtain ⟨_,p,h1,_⟩:=ho;exact key _ h1
 | brw e k xs =>
  obtain ⟨_,_,h3⟩:=ho
  rcases h3 with ⟨h3,_⟩|⟨_,_,vs,g1,_⟩
  ·rw[hn] at h3;cases h3
  ·exact key _ g1
 | rows k xs =>
  obtain ⟨_,_,h3⟩:=ho
  rcases h3 with ⟨h3,_⟩|⟨_,_,vs,T,g1,_⟩
  ·rw[hn] at h3;cases h3
  ·exact key _ g1
 | hrow s cs=>obtain ⟨_,_,_,_,vs,T,g1,_⟩:=ho;exact key _ g1
 | arr k n xs=>obtain ⟨_,_,vs,T,h1,_⟩:=ho;exact key _ h1
 | emp=>obtain ⟨_,c,h1⟩:=ho;exact key _ h1
 | rr own e xss h =>
  obtain ⟨_,_,h3⟩:=ho
  rcases h3 with ⟨h3,_⟩|⟨_,_,vs,T,g1,_⟩
  ·rw[hn] at h3;cases h3
  ·exact key _ g1
theorem xU {X:Nat->Prop} {ρ:Nat->Hd} {m:Mem} {L:Nat->Option MObj} {w:World} (h:Hp X ρ m L w) {k:Nat} {o:MObj} {b:Nat} (hk:L k=some o) (hf:inner ρ w k o b):b<w.heap.size:=by
 have ho:=h.obj k o hk
 cases o with
 | rr own e xss hh =>
  obtain ⟨rfl,hn,vs,T,i,l,c,h1,h2,h3,h4⟩:=hf
  obtain ⟨_,_,h5⟩:=ho
  rcases h5 with ⟨h5,_⟩|⟨_,_,vs',T',g1,_,g3,_⟩
  ·rw[hn] at h5;cases h5
  ·have e:=g1.symm.trans h1
   simp only[Option.some.injEq,Obj.cells.injEq,List.toArray_inj] at e
   have e0:vs'=vs:=by have:=congrArg Array.toList e.1;simpa using this
   subst e0
   obtain ⟨v,hv,hr⟩:=g3 i h2 h3
   have e2:=hv.symm.trans h4
   simp only[Option.some.injEq] at e2
   subst e2
   rcases hr with ⟨hr,_⟩|⟨b',cap,us,T'',r1,_,r3,_⟩
   ·cases hr
   ·simp only[Value.slice.injEq,Option.some.injEq,Addr.mk.injEq] at r1
    rw[<-r1.1.1] at r3
    exact (Array.getElem?_eq_some_iff.1 r3).1
 | _=>exact hf.elim

theorem WG {X:Nat->Prop} {ρ:Nat->Hd} {m:Mem} {L:Nat->Option MObj} {w:World} (h:Hp X ρ m L w) {b:Nat} {o:Obj} (hb:m b=some o):b<w.heap.size :=
 (Array.getElem?_eq_some_iff.1 (h.mem b o hb)).1

def get {α:Type}:List (Nat×α)->Nat->Option α
  | [],_=>none
  | (k,v)::l,s=>if k==s then some v else get l s
def ww {α:Type}:List (Nat×Option α)->Nat->Option α
  | [],_=>none
  | (k,v)::l,s=>if k==s then v else ww l s

@[go_sem] theorem HN {α:Type} (k:Nat) (v:α) (l:List (Nat×α)) (s:Nat):get ((k,v)::l) s=if k==s then some v else get l s:=rfl
@[go_sem] theorem Mb {α:Type} (s:Nat):get ([]:List (Nat×α)) s=none:=rfl

structure Gd where
  X:Nat->Prop
  ρ0:Nat->Hd
  m0:Mem
  w0:World

def Sat (Γ:Gd) (N:Nat) (A:Nat->Option MV) (L:Nat->Option MObj) (a:Act) (w:World):Prop :=
  a.tmps.size=N/\a.defers=[]/\∃ρ m,(∀s x,A s=some x->∃v,a.tmps[s]? = some v/\Cv ρ m x v)/\Hp Γ.X ρ m L w/\Nx Γ.X Γ.m0 m Γ.w0 w/\∀k,k<1000->ρ k=Γ.ρ0 k

theorem Sat.weak {Γ:Gd} {N:Nat} {A A':Nat->Option MV} {L L':Nat->Option MObj} {a:Act} {w:World} (h:Sat Γ N A L a w)
  (hA:∀s x,A' s=some x->A s=some x) (hL:∀s x,L' s=some x->L s=some x):Sat Γ N A' L' a w:=by
 obtain ⟨h1,h2,ρ,m,h3,h4,h5,h6⟩:=h
 exact ⟨h1,h2,ρ,m,fun s x hs=>h3 s x (hA s x hs),⟨h4.mem,fun k o hk=>h4.obj k o (hL k o hk),fun k o k' o' b hk hk'=>h4.dj k o k' o' b (hL _ _ hk) (hL _ _ hk'),
  fun k o b hk=>h4.djm k o b (hL _ _ hk),fun k o b hk=>h4.djX k o b (hL _ _ hk),h4.lt,fun k o b hk hi=>by
   obtain ⟨i1,i2,i3,i4⟩:=h4.inn k o b (hL _ _ hk) hi
   exact ⟨i1,i2,fun k' o' hk'=>i3 k' o' (hL _ _ hk'),fun k' o' hk'=>i4 k' o' (hL _ _ hk')⟩⟩,h5,h6⟩

def Fn (P:Program) (f:FuncId) (args:List MV) (L:List (Nat×Option MObj)) (res:MV) (L':List (Nat×Option MObj)):Prop :=
  ∀(X:Nat->Prop) (ρ:Nat->Hd) (m:Mem) (w:World) (vs:List Value),Hp X ρ m (ww L) w->CvL ρ m args vs →
    Calls P f vs.toArray w fun e w'=>∃ρ' m' v,e=.returned v/\Cv ρ' m' res v/\Hp X ρ' m' (ww L') w'/\Nx X m m' w w'/\∀k,k<1000->ρ' k=ρ k
end
section

structure TI where
  agg:Bool
  size:Nat
  bytes:Nat:=0
  zero:List MV:=[]
  fields:List (Nat×Nat×Bool):=[]
  elem:Nat:=0
  esz:Nat:=0
  alen:Nat:=0
  eagg:Bool:=false
  ik:Option IntKind:=none
  arr:Bool:=false
  slc:Bool:=false
  tag:Nat:=0
  eqf:Bool:=false
  ek:Option Kd:=none
  eb:Nat:=0
  bld:Bool:=false
  rr:Option Kd:=none
  mp:Bool:=false
instance:Inhabited TI:=⟨{ agg:=false,size:=0 }⟩

def vo:TypeDesc->Bool
  | .struct _=>true
  | .array _ _=>true
  | _=>false
def zeq:MV->Value->Bool
  | .int k x,.int k' y=>k==k'&&x==y
  | .bool b,.bool c=>b==c
  | .str s,.string t=>s.data.toList.isEmpty&&t.data.toList.isEmpty
  | .nilp,.pointer none=>true
  | .nils,.slice none 0 0=>true
  | .nilf,.nilFunc=>true
  | .nili,.nilIface=>true
  | .nilm,.map none=>true
  | _,_=>false
def QV:List MV->List Value->Bool
  | [],[]=>true
  | x::l,v::vs=>zeq x v&&QV l vs
  | _,_=>false

theorem gN {x:MV} {v:Value} (h:zeq x v=true) (ρ:Nat->Hd) (m:Mem):Cv ρ m x v:=by
 unfold zeq at h
 split at h<;>simp_all [Cv]
 rename_i s t
 obtain ⟨h1,h2⟩:=h
 cases s with|mk s=>cases t with|mk t=>cases s;cases t;simp_all
theorem Xk:∀{l:List MV} {vs:List Value},QV l vs=true->∀(ρ:Nat->Hd) (m:Mem),CvL ρ m l vs
 | [],[],_,_,_=>rfl
 | [],_::_,h,_,_=>by simp[QV] at h
 | _::_,[],h,_,_=>by simp[QV] at h
 | x::l,v::vs,h,ρ,m=>by
  simp only[QV,Bool.and_eq_true] at h
  exact ⟨v,vs,rfl,gN h.1 ρ m,Xk h.2 ρ m⟩

theorem Ko (d:Nat):∀{l:List MV} {vs:List Value},QV l vs=true->MV.hasL d l=false
 | [],_,_=>rfl
 | x::l,[],h=>by simp[QV] at h
 | x::l,v::vs,h=>by
  simp only[QV,Bool.and_eq_true] at h
  simp only[MV.hasL,Bool.or_eq_false_iff]
  refine ⟨?_,Ko d h.2⟩
  have h1:=h.1
  unfold zeq at h1
  split at h1<;>first|rfl|cases h1

def sizeb (P:Program) (t n:Nat):Bool:=match P.info? t with|some j=>j.size==n|none=>false
def bytesb (P:Program) (t n:Nat):Bool:=match P.info? t with|some j=>j.bytes==n|none=>false
def aggb (P:Program) (t:Nat) (b:Bool):Bool:=match P.underlying t with|some e=>vo e==b|none=>false
def fieldb (P:Program) (g:Field) (q:Nat×Nat×Bool):Bool:=g.offset==q.1&&sizeb P g.type q.2.1&&aggb P g.type q.2.2
def fieldsb (P:Program):List Field->List (Nat×Nat×Bool)->Bool
  | _,[]=>true
  | g::gs,q::qs=>fieldb P g q&&fieldsb P gs qs
  | [],_::_=>false
def Kd.df:(k:Kd)->k.T
  | .int _=>(0:Int)
  | .bool=>false
  | .str=>(⟨#[]⟩:ByteArray)
  | .slice _=>([]:List _)
  | .pair a b=>(a.df,b.df)
  | .unit=>()
  | .ptr=>(none:Option Addr)
  | .hdr=>(none:Option (Nat×Nat×Nat))
def dfb:Kd->List Value->Option (List Value)
  | .int k,l=>match l with
    | .int k' x::l'=>if k=k'/\x=0 then some l' else none
    | _=>none
  | .bool,l=>match l with
    | .bool b::l'=>if b=false then some l' else none
    | _=>none
  | .str,l=>match l with
    | .string s::l'=>if s.data.toList.isEmpty then some l' else none
    | _=>none
  | .slice _,l=>match l with
    | .slice none 0 0::l'=>some l'
    | _=>none
  | .pair a b,l=>(dfb a l).bind (dfb b)
  | .unit,l=>some l
  | .ptr,l=>match l with
    | .pointer none::l'=>some l'
    | _=>none
  | .hdr,l=>match l with
    | .slice none 0 0::l'=>some l'
    | _=>none
theorem Jf (m:Mem):∀(k:Kd) (l l':List Value),dfb k l=some l'->∃cs,l=cs++l'/\k.R m k.df cs
 | .int k,l,l',h=>by
  simp only[dfb] at h
  split at h
  ·rename_i k' x l1
   split at h
   ·rename_i hc
    obtain ⟨rfl,rfl⟩:=hc
    simp only[Option.some.injEq] at h;subst h
    exact ⟨[.int k 0],rfl,rfl⟩
   ·cases h
  ·cases h
 | .bool,l,l',h=>by
  simp only[dfb] at h
  split at h
  ·split at h
   ·rename_i hc
    subst hc
    simp only[Option.some.injEq] at h;subst h
    exact ⟨[.bool false],rfl,rfl⟩
   ·cases h
  ·cases h
 | .str,l,l',h=>by
  simp only[dfb] at h
  split at h
  ·rename_i s l1
   split at h
   ·rename_i hc
    simp only[Option.some.injEq] at h;subst h
    refine ⟨[.string s],rfl,?_⟩
    simp only[Kd.R,Kd.df]
    cases s with|mk s=>cases s;simp_all
   ·cases h
  ·cases h
 | .slice e,l,l',h=>by
  simp only[dfb] at h
  split at h
  ·simp only[Option.some.injEq] at h;subst h
   exact ⟨[.slice none 0 0],rfl,_,rfl,.inl ⟨_,rfl,rfl⟩⟩
  ·cases h
 | .pair a b,l,l',h=>by
  simp only[dfb,Option.bind_eq_some_iff] at h
  obtain ⟨l1,h1,h2⟩:=h
  obtain ⟨c,rfl,hc⟩:=Jf m a _ _ h1
  obtain ⟨d,rfl,hd⟩:=Jf m b _ _ h2
  exact ⟨c++d,by rw[List.append_assoc],c,d,rfl,hc,hd⟩
 | .unit,l,l',h=>by
  simp only[dfb,Option.some.injEq] at h;subst h
  exact ⟨[],rfl,rfl⟩
 | .ptr,l,l',h=>by
  simp only[dfb] at h
  split at h
  ·simp only[Option.some.injEq] at h;subst h
   exact ⟨[.pointer none],rfl,rfl⟩
  ·cases h
 | .hdr,l,l',h=>by
  simp only[dfb] at h
  split at h
  ·simp only[Option.some.injEq] at h;subst h
   exact ⟨[.slice none 0 0],rfl,rfl⟩
  ·cases h
def ekb (P:Program) (e:Nat) (k:Kd):Bool:=match P.info? e with|some j=>(match j.zero with|some z=>(match dfb k z.cells.toList with|some []=>true|_=>false)|none=>false)|none=>false

def xJ:TypeDesc->Nat
  | .bool=>1
  | .pointer _=>2
  | .slice _=>3
  | .func _ _ _=>4
  | .interface _=>5
  | .string=>7
  | _=>0
def tokb (P:Program) (t:Nat) (i:TI):Bool :=
  match P.info? t,P.underlying t with
  | some j,some d=>j.size==i.size&&j.bytes==i.bytes&&(vo d==i.agg&&xJ d==i.tag) &&
    (match j.zero with|some z=>QV i.zero z.cells.toList|none=>false) &&
    (match d with|.struct fs=>fieldsb P fs.toList i.fields&&fs.size==i.fields.length|_=>i.fields.isEmpty) &&
    (!i.arr||match d with|.array n e=>n==i.alen&&e==i.elem&&sizeb P e i.esz&&aggb P e i.eagg|_=>false) &&
    (!i.slc||match d with|.slice e=>e==i.elem&&sizeb P e i.esz|_=>false) &&
    (match i.ik with|some k=>(match d with|.int k'=>k==k'|_=>false)|none=>true) &&
    (match i.ek with|some k=>i.slc&&k.n==i.esz&&ekb P i.elem k&&bytesb P i.elem i.eb|none=>true) &&
    (!i.mp||match d with|.map k e=>e==i.elem&&(match P.underlying k with|some (.int _)=>true|_=>false)&&(match P.info? e with|some j=>(match j.zero with|some (.string s)=>s.data.toList.isEmpty|_=>false)|none=>false)|_=>false)
  | _,_=>false

theorem zW {P:Program} {t n:Nat} (h:sizeb P t n=true):∃j,P.info? t=some j/\j.size=n:=by
 unfold sizeb at h
 split at h
 ·rename_i j hj;exact ⟨j,hj,by simpa using h⟩
 ·cases h
theorem XN {P:Program} {t:Nat} {b:Bool} (h:aggb P t b=true):∃e,P.underlying t=some e/\vo e=b:=by
 unfold aggb at h
 split at h
 ·rename_i j hj;exact ⟨j,hj,by simpa using h⟩
 ·cases h
theorem Zr {P:Program}:∀{fs:List Field} {l:List (Nat×Nat×Bool)},fieldsb P fs l=true->∀(f:Nat) (q:Nat×Nat×Bool),l[f]? = some q →
  ∃g:Field,fs[f]? = some g/\g.offset=q.1/\sizeb P g.type q.2.1=true/\aggb P g.type q.2.2=true
 | _,[],_,f,q,hq=>by simp at hq
 | [],_::_,h,_,_,_=>by simp[fieldsb] at h
 | g::gs,r::l,h,0,q,hq=>by
  simp only[fieldsb,fieldb,Bool.and_eq_true,beq_iff_eq] at h
  simp at hq;subst hq
  exact ⟨g,rfl,h.1.1.1,h.1.1.2,h.1.2⟩
 | g::gs,r::l,h,f+1,q,hq=>by
  simp only[fieldsb,Bool.and_eq_true] at h
  obtain ⟨g',h1,h2⟩:=Zr h.2 f q (by simpa using hq)
  exact ⟨g',by simpa using h1,h2⟩

structure TOK (P:Program) (t:TypeId) (i:TI):Prop where
  info:∃j z,P.info? t=some j/\j.size=i.size/\j.bytes=i.bytes/\j.zero=some z/\∀ρ m,CvL ρ m i.zero z.cells.toList
  zfr:∀d,MV.hasL d i.zero=false
  und:∃d,P.underlying t=some d/\vo d=i.agg/\xJ d=i.tag
  fld:∀(f:Nat) (q:Nat×Nat×Bool),i.fields[f]? = some q->∃(fs:Array Field) (g:Field),P.underlying t=some (.struct fs)/\fs[f]? = some g/\g.offset=q.1/\sizeb P g.type q.2.1=true/\aggb P g.type q.2.2=true
  flen:∀fs,P.underlying t=some (.struct fs)->fs.size=i.fields.length
  arr:i.arr=true->P.underlying t=some (.array i.alen i.elem)/\sizeb P i.elem i.esz=true/\aggb P i.elem i.eagg=true
  slc:i.slc=true->P.underlying t=some (.slice i.elem)/\sizeb P i.elem i.esz=true
  ik:∀k,i.ik=some k->P.underlying t=some (.int k)
  ek:∀k,i.ek=some k->i.slc=true/\k.n=i.esz/\∃j z,P.info? i.elem=some j/\j.bytes=i.eb/\j.zero=some z/\∀m,k.R m k.df z.cells.toList
  mp:i.mp=true->∃k ik j,P.underlying t=some (.map k i.elem)/\P.underlying k=some (.int ik)/\P.info? i.elem=some j/\j.zero=some (.string ⟨#[]⟩)

theorem wh {P:Program} {t:Nat} {i:TI} (h:tokb P t i=true):TOK P t i:=by
 unfold tokb at h
 split at h
 case h_2=>cases h
 rename_i j d hj hd
 simp only[Bool.and_eq_true,beq_iff_eq] at h
 obtain ⟨⟨⟨⟨⟨⟨⟨⟨⟨h1,h2⟩,h3⟩,h4⟩,h5⟩,h6⟩,h7⟩,h8⟩,h9⟩,h10⟩:=h
 refine ⟨?_,?_,⟨d,hd,h3.1,h3.2⟩,?_,?_,?_,?_,?_,?_,?_⟩
 ·split at h4
  ·rename_i z hz;exact ⟨j,z,hj,h1,h2,hz,Xk h4⟩
  ·cases h4
 ·intro q
  split at h4
  ·exact Ko q h4
  ·cases h4
 ·intro f q hq
  split at h5
  ·rename_i fs
   simp only[Bool.and_eq_true] at h5
   obtain ⟨g,g1,g2⟩:=Zr h5.1 f q hq
   exact ⟨fs,g,hd,by simpa using g1,g2⟩
  ·simp at h5;rw[h5] at hq;simp at hq
 ·intro fs hfs
  rw[hd] at hfs;cases hfs
  simp only[Bool.and_eq_true,beq_iff_eq] at h5
  exact h5.2
 ·intro ha
  rw[ha] at h6
  simp only[Bool.not_true,Bool.false_or] at h6
  split at h6
  ·rename_i n e
   simp only[Bool.and_eq_true,beq_iff_eq] at h6
   obtain ⟨⟨⟨rfl,rfl⟩,g1⟩,g2⟩:=h6
   exact ⟨hd,g1,g2⟩
  ·cases h6
 ·intro ha
  rw[ha] at h7
  simp only[Bool.not_true,Bool.false_or] at h7
  split at h7
  ·rename_i e
   simp only[Bool.and_eq_true,beq_iff_eq] at h7
   obtain ⟨rfl,g1⟩:=h7
   exact ⟨hd,g1⟩
  ·cases h7
 ·intro k hk
  rw[hk] at h8
  simp only at h8
  split at h8
  ·rename_i k';simp only[beq_iff_eq] at h8;subst h8;exact hd
  ·cases h8
 ·intro k hk
  rw[hk] at h9
  simp only[Bool.and_eq_true,beq_iff_eq,ekb] at h9
  refine ⟨h9.1.1.1,h9.1.1.2,?_⟩
  have hb:=h9.2
  have h9:=h9.1.2
  unfold bytesb at hb
  split at h9
  ·rename_i j hj
   split at h9
   ·rename_i z hz
    split at h9
    ·rename_i hz'
     rw[hj] at hb
     refine ⟨j,z,hj,by simpa using hb,hz,fun m=>?_⟩
     obtain ⟨cs,h1,h2⟩:=Jf m k _ _ hz'
     rw[List.append_nil] at h1;rw[h1];exact h2
    ·cases h9
   ·cases h9
  ·cases h9
 ·intro ha
  rw[ha] at h10
  simp only[Bool.not_true,Bool.false_or] at h10
  split at h10
  ·rename_i k e
   simp only[Bool.and_eq_true,beq_iff_eq] at h10
   obtain ⟨⟨rfl,g1⟩,g2⟩:=h10
   split at g1
   ·rename_i ik hk
    split at g2
    ·rename_i j hj
     split at g2
     ·rename_i s hs
      have:s=⟨#[]⟩:=by
       obtain ⟨d⟩:=s
       have h1:d.toList=[]:=List.isEmpty_iff.1 g2
       have h2:d=#[]:=by rw[<-Array.toList_inj,h1]
       rw[h2]
      subst this
      exact ⟨k,ik,j,hd,hk,hj,hs⟩
     ·cases g2
    ·cases g2
   ·cases g1
  ·cases h10

def wb (k:IntKind) (x:Int):Int:=k.wrap x
def kand (k:IntKind) (x y:Int):Int:=k.wrap (BitVec.ofInt k.bits x &&& BitVec.ofInt k.bits y).toNat
def kor (k:IntKind) (x y:Int):Int:=k.wrap (BitVec.ofInt k.bits x ||| BitVec.ofInt k.bits y).toNat
def kxor (k:IntKind) (x y:Int):Int:=k.wrap (BitVec.ofInt k.bits x ^^^ BitVec.ofInt k.bits y).toNat
def kandn (k:IntKind) (x y:Int):Int:=k.wrap (BitVec.ofInt k.bits x &&& ~~~ BitVec.ofInt k.bits y).toNat
def kshl (k:IntKind) (x y:Int):Int:=k.wrap (x*2^(min y.toNat k.bits))
def kshr (k:IntKind) (x y:Int):Int:=x.fdiv (2^(min y.toNat k.bits))
def imin (x y:Int):Int:=if y<x then y else x
def imax (x y:Int):Int:=if y>x then y else x

def ofc:Value->MV
  | .int k n=>.int k n
  | .bool b=>.bool b
  | .string s=>.str s
  | .pointer none=>.nilp
  | .slice none 0 0=>.nils
  | .nilFunc=>.nilf
  | .nilIface=>.nili
  | .map none=>.nilm
  | v=>.raw v

theorem Hy (ρ:Nat->Hd) (m:Mem) (v:Value):Cv ρ m (ofc v) v:=by
 unfold ofc
 split<;>simp[Cv]

def opd (A:List (Nat×MV)):Operand->Option MV
  | .tmp t=>get A t
  | .const v=>some (ofc v)
  | .func f=>some (.fn f [])
  | .global _=>none

def v9 (ρ:Nat->Hd) (m:Mem) (A:List (Nat×MV)) (a:Act):Prop:=∀s x,get A s=some x->∃v,a.tmps[s]? = some v/\Cv ρ m x v

theorem WF {ρ:Nat->Hd} {m:Mem} {A:List (Nat×MV)} {a:Act} (h:v9 ρ m A a) {x:Operand} {y:MV} (hx:opd A x=some y):Cv ρ m y (a.eval x):=by
 cases x with
 | tmp t =>
  obtain ⟨v,hv,hc⟩:=h t y hx
  simpa [Act.eval,hv] using hc
 | const v=>simp[opd] at hx;subst hx;exact Hy ρ m v
 | func f=>simp[opd] at hx;subst hx;exact ⟨[],rfl,rfl⟩
 | global g=>simp[opd] at hx

def ibin (op:BinOp) (k:IntKind) (x y:Int):Option (MV×Prop) :=
  match op with
  | .add=>some (.int k (wb k (x+y)),True)
  | .sub=>some (.int k (wb k (x-y)),True)
  | .mul=>some (.int k (wb k (x*y)),True)
  | .quo=>some (.int k (wb k (x.tdiv y)),y≠0)
  | .rem=>some (.int k (x.tmod y),y≠0)
  | .and=>some (.int k (kand k x y),True)
  | .or=>some (.int k (kor k x y),True)
  | .xor=>some (.int k (kxor k x y),True)
  | .andNot=>some (.int k (kandn k x y),True)
  | .eql=>some (.bool (x==y),True)
  | .neq=>some (.bool (x != y),True)
  | .lss=>some (.bool (decide (x<y)),True)
  | .leq=>some (.bool (decide (x<=y)),True)
  | .gtr=>some (.bool (decide (x>y)),True)
  | .geq=>some (.bool (decide (x>=y)),True)
  | _=>none

def Mc:BinOp->Bool
  | .shl|.shr=>true
  | _=>false

def beqs (s t:ByteArray):Bool:=s.toList==t.toList

def bin (op:BinOp) (x y:MV):Option (MV×Prop) :=
  match x,y with
  | .int k a,.int k' b =>
    match op with
    | .shl=>some (.int k (kshl k a b),0<=b)
    | .shr=>some (.int k (kshr k a b),0<=b)
    | op=>if k=k' then ibin op k a b else none
  | .str s,.str t =>
    match op with
    | .eql=>some (.bool (beqs s t),True)
    | .neq=>some (.bool (!(beqs s t)),True)
    | .add=>some (.str (s++t),s.size+t.size<=9223372036854775807)
    | _=>none
  | _,_=>none

theorem uQ {P:Program} {op:BinOp} {k:IntKind} {x y:Int} {r:MV} {C:Prop} (h:ibin op k x y=some (r,C)) (hC:C) (T:TypeId) (w:World) (ρ:Nat->Hd) (m:Mem) :
  ∃v,(binOp op T (.int k x) (.int k y)).run P w=.ok v w/\Cv ρ m r v:=by
 cases op<;>simp only[ibin,Option.some.injEq,Prod.mk.injEq,reduceCtorEq] at h<;>obtain ⟨rfl,rfl⟩:=h <;>
  simp[binOp,Op.intArith,Op.intDiv,Op.intBits,Op.intCmp,pure,Cv,wb,kand,kor,kxor,kandn,hC]<;>exact hC

theorem UV {P:Program} {op:BinOp} {x y:MV} {r:MV} {C:Prop} (h:bin op x y=some (r,C)) (hC:C) (T:TypeId) (w:World) {ρ:Nat->Hd} {m:Mem} {u v:Value}
    (hu:Cv ρ m x u) (hv:Cv ρ m y v):∃z,(binOp op T u v).run P w=.ok z w/\Cv ρ m r z:=by
  unfold bin at h
  split at h
  · rename_i k a k' b
    simp only[Cv] at hu hv
    subst hu hv
    cases op<;>simp only[Option.some.injEq,Prod.mk.injEq,Option.ite_none_right_eq_some] at h
    all_goals first
      | (obtain ⟨hk,h⟩:=h;subst hk;exact uQ h hC T w ρ m)
      | (obtain ⟨rfl,rfl⟩:=h
         have hb:¬b<0:=by omega
         simp[binOp,Op.shift,hb,pure,Cv,kshl,kshr])
  · rename_i s t
    simp only[Cv] at hu hv
    subst hu hv
    cases op<;>simp only[Option.some.injEq,Prod.mk.injEq,reduceCtorEq] at h<;>obtain ⟨rfl,rfl⟩:=h
    · simp[binOp,Op.stringOp,pure,Cv];omega
    · simp[binOp,Op.stringOp,pure,Cv,beqs]
    · simp[binOp,Op.stringOp,pure,Cv,beqs]
  · cases h
end
section

theorem Wh {w:World} {b off:Nat} {arr:Array Value} {T:TypeId} {fr:Nat×Nat} (h:w.heap[b]? = some (.cells arr T fr)):w.cell? ⟨b,off,none⟩=arr[off]?:=by
 simp[World.cell?,h]

theorem vw {α β:Type} {P:Program} (s:Sem α) (f:α->Sem β) (w:World) :
  (s.bind f).run P w=match s.run P w with|.ok a w'=>(f a).run P w'|.halt h w'=>.halt h w':=by
 induction s generalizing w with
 | pure a=>rfl
 | load m a k ih =>
  simp only[Sem.bind,Sem.run]
  split
  ·exact ih _ _
  ·split
   ·exact ih _ _
   ·rfl
 | store m a v k ih =>
  cases v<;>simp only[Sem.bind,Sem.run]<;>(repeat' split)<;>first|exact ih _|rfl|simp_all
 | new o k ih=>exact ih _ _
 | shape r k ih=>exact ih _ _
 | freeze a n k ih=>exact ih _
 | frozen a k ih=>exact ih _ _
 | getObj r k ih =>
  simp only[Sem.bind,Sem.run]
  split<;>first|rfl|exact ih _ _
 | setObj r o k ih =>
  simp only[Sem.bind,Sem.run]
  split<;>first|rfl|exact ih _
 | choose q k ih =>
  simp only[Sem.bind,Sem.run]
  split<;>exact ih _ _
 | sys c k ih=>exact ih _ _
 | program k ih=>exact ih _ _
 | mark m k ih=>exact ih _
 | halt h=>rfl

theorem wc {α β:Type} {P:Program} (s:Sem α) (f:α->Sem β) (w:World) :
  (s >>= f).run P w=match s.run P w with|.ok a w'=>(f a).run P w'|.halt h w'=>.halt h w':=vw s f w
theorem zZ {α:Type} {P:Program} (a:α) (w:World):(pure a:Sem α).run P w=.ok a w:=rfl

theorem wm {P:Program} {t:Nat} {d:TypeDesc} (h:P.underlying t=some d) (w:World):(underlying t).run P w=.ok d w:=by
 simp[underlying,program,Sem.run,h,pure]
theorem wZ {P:Program} {t:Nat} {j:TypeInfo} (h:P.info? t=some j) (w:World):(sizeOf t).run P w=.ok j.size w:=by
 simp[sizeOf,typeInfo,program,Sem.run,h,pure]
theorem qb {P:Program} {t:Nat} {j:TypeInfo} {z:Value} (h:P.info? t=some j) (hz:j.zero=some z) (w:World):(zeroValue t).run P w=.ok z w:=by
 simp[zeroValue,typeInfo,program,Sem.run,h,hz,pure]
theorem yV {P:Program} {t:Nat} {d:TypeDesc} (h:P.underlying t=some d) (w:World):(isAgg t).run P w=.ok (vo d) w:=by
 unfold isAgg
 rw[wc,wm h]
 cases d<;>rfl
theorem K2 {P:Program} {a:Addr} {v:Value} {w:World} (h:w.cell? a=some v):(load a).run P w=.ok v w:=by
 simp[load,Sem.run,h]

theorem Q4 (b off i:Nat):(⟨b,off,none⟩:Addr).add i=⟨b,off+i,none⟩:=by
 unfold Addr.add
 split
 ·rename_i h;subst h;rfl
 ·rfl

theorem Wa {P:Program} {w:World} {b off:Nat} {arr:Array Value} {T:TypeId} {fr:Nat×Nat} (h:w.heap[b]? = some (.cells arr T fr)) :
  ∀(n i:Nat) (acc:Array Value),off+i+n<=arr.size->(loadCellsFrom ⟨b,off,none⟩ i n acc).run P w=.ok (acc++((arr.toList.drop (off+i)).take n).toArray) w:=by
 intro n
 induction n with
 | zero=>intro i acc _;simp[loadCellsFrom,pure]
 | succ n ih =>
  intro i acc hs
  unfold loadCellsFrom
  have hlt:off+i<arr.size:=by omega
  have hc:w.cell? ((⟨b,off,none⟩:Addr).add i)=some arr[off+i]:=by rw[Q4,Wh h];simp[hlt]
  rw[wc,K2 hc]
  simp only
  rw[ih (i+1) _ (by omega)]
  congr 1
  have:(arr.toList.drop (off+i)).take (n+1)=arr[off+i]::(arr.toList.drop (off+(i+1))).take n:=by
   rw[List.drop_eq_getElem_cons (by simpa using hlt)]
   simp[Nat.add_assoc]
  rw[this]
  simp

theorem yR {P:Program} {w:World} {b off n:Nat} {arr:Array Value} {T:TypeId} {fr:Nat×Nat} (h:w.heap[b]? = some (.cells arr T fr)) (hs:off+n<=arr.size) :
  (loadCells ⟨b,off,none⟩ n).run P w=.ok ((arr.toList.drop off).take n).toArray w:=by
 unfold loadCells
 rw[Wa h n 0 _ (by omega)]
 simp

def X0 (agg:Bool) (cs:List Value):Value:=if agg then .agg cs.toArray else cs.headD undef

theorem jb {P:Program} {w:World} {b off:Nat} {arr:Array Value} {T T':TypeId} {fr:Nat×Nat} {i:TI} (ht:TOK P T i) (h:w.heap[b]? = some (.cells arr T' fr)) (hs:off+i.size<=arr.size) (h1:i.agg=true\/i.size=1) :
  (loadVar T ⟨b,off,none⟩).run P w=.ok (X0 i.agg ((arr.toList.drop off).take i.size)) w:=by
 obtain ⟨j,z,hj,hsz,_⟩:=ht.info
 obtain ⟨d,hd,ha,_⟩:=ht.und
 unfold loadVar
 rw[wc,yV hd,ha]
 simp only
 cases hag:i.agg with
 | true =>
  simp only[if_true]
  rw[wc,wZ hj,hsz]
  simp only
  rw[wc,yR h hs]
  rfl
 | false =>
  have h2:i.size=1:=by simpa [hag] using h1
  have hlt:off<arr.size:=by omega
  simp only[Bool.false_eq_true,if_false]
  rw[K2 (v:=arr[off]) (by rw[Wh h];simp[hlt])]
  simp[X0,h2,List.drop_eq_getElem_cons,hlt]

def Kd.flat:(k:Kd)->k.T->List MV
  | .int k,x=>[.int k x]
  | .bool,x=>[.bool x]
  | .str,x=>[.str x]
  | .slice e,l=>[.im (.slice e) l]
  | .pair a b,x=>a.flat x.1++b.flat x.2
  | .unit,_=>[]
  | .ptr,x=>[.raw (.pointer x)]
  | .hdr,x=>[.raw (hval x)]

theorem Wo {ρ:Nat->Hd} {m:Mem}:∀(k:Kd) (x:k.T) (cs:List Value),k.R m x cs->CvL ρ m (k.flat x) cs
 | .int k,x,cs,h=>by simp only[Kd.R] at h;subst h;exact ⟨_,_,rfl,rfl,rfl⟩
 | .bool,x,cs,h=>by simp only[Kd.R] at h;subst h;exact ⟨_,_,rfl,rfl,rfl⟩
 | .str,x,cs,h=>by simp only[Kd.R] at h;subst h;exact ⟨_,_,rfl,rfl,rfl⟩
 | .slice e,l,cs,h=>by
  obtain ⟨v,rfl,hs⟩:=h
  exact ⟨v,[],rfl,⟨v,rfl,hs⟩,rfl⟩
 | .pair a b,x,cs,h=>by
  obtain ⟨c,d,rfl,h1,h2⟩:=h
  exact CvL.append (Wo a x.1 c h1) (Wo b x.2 d h2)
 | .unit,_,cs,h=>by simp only[Kd.R] at h;subst h;rfl
 | .ptr,_,cs,h=>by simp only[Kd.R] at h;subst h;exact ⟨_,_,rfl,rfl,rfl⟩
 | .hdr,_,cs,h=>by simp only[Kd.R] at h;subst h;exact ⟨_,_,rfl,rfl,rfl⟩

def Kd.at:(k:Kd)->k.T->Nat->Nat->Option ((k':Kd)×k'.T)
  | .pair a b,x,off,n=>if off==0&&n==a.n+b.n then some ⟨.pair a b,x⟩ else if off<a.n then a.at x.1 off n else b.at x.2 (off-a.n) n
  | k,x,off,n=>if off==0&&n==k.n then some ⟨k,x⟩ else none

theorem ug {m:Mem}:∀(k:Kd) (x:k.T) (cs:List Value) (off n:Nat) (k':Kd) (y:k'.T),k.R m x cs->k.at x off n=some ⟨k',y⟩->k'.n=n/\off+n<=k.n/\k'.R m y ((cs.drop off).take n):=by
 intro k
 have base:∀(k:Kd) (x:k.T) (cs:List Value) (off n:Nat) (k':Kd) (y:k'.T),k.R m x cs->(if off==0&&n==k.n then some (⟨k,x⟩:(k':Kd)×k'.T) else none)=some ⟨k',y⟩->k'.n=n/\off+n<=k.n/\k'.R m y ((cs.drop off).take n):=by
  intro k x cs off n k' y hr h
  split at h
  ·rename_i hc
   simp only[Bool.and_eq_true,beq_iff_eq] at hc
   obtain ⟨rfl,rfl⟩:=hc
   obtain ⟨rfl,h⟩:=Sigma.mk.inj (Option.some.inj h)
   have:=eq_of_heq h;subst this
   refine ⟨rfl,by omega,?_⟩
   rw[List.drop_zero,List.take_of_length_le (by rw[Kd.R.len _ _ _ hr];exact Nat.le_refl _)]
   exact hr
  ·cases h
 induction k with
 | pair a b iha ihb =>
  intro x cs off n k' y hr h
  have hlen:=Kd.R.len _ _ _ hr
  unfold Kd.at at h
  split at h
  ·rename_i hc
   exact base (.pair a b) x cs off n k' y hr (by show (if (off==0&&n==a.n+b.n) then some (⟨.pair a b,x⟩:(k':Kd)×k'.T) else none)=_;rw[if_pos hc];exact h)
  ·obtain ⟨c,d,rfl,h1,h2⟩:=hr
   have lc:=Kd.R.len _ _ _ h1
   have ld:=Kd.R.len _ _ _ h2
   split at h
   ·rename_i hlt
    obtain ⟨g1,g2,g3⟩:=iha x.1 c off n k' y h1 h
    refine ⟨g1,by simp only[Kd.n];omega,?_⟩
    rw[List.drop_append_of_le_length (by omega),List.take_append_of_le_length (by rw[List.length_drop];omega)]
    exact g3
   ·rename_i hlt
    obtain ⟨g1,g2,g3⟩:=ihb x.2 d (off-a.n) n k' y h2 h
    refine ⟨g1,by simp only[Kd.n];omega,?_⟩
    rw[List.drop_append,List.drop_of_length_le (by omega),List.nil_append,lc]
    exact g3
 | int _=>exact base _
 | bool=>exact base _
 | str=>exact base _
 | slice _=>exact base _
 | unit=>exact base _
 | ptr=>exact base _
 | hdr=>exact base _

def Kd.nth (k:Kd) (l:List k.T) (i:Nat):k.T:=l.getD i k.df

theorem uj {m:Mem} {e:Kd} {l:List e.T} {v:Value} (h:SlR m e.n (e.R m) l v) {i:Nat} (hi:i<l.length):∃b off cap cells T fr,v=.slice (some ⟨b,off,none⟩) l.length cap ∧
  m b=some (.cells cells T fr)/\off+i*e.n+e.n<=cells.size/\e.R m (e.nth l i) ((cells.toList.drop (off+i*e.n)).take e.n):=by
 rcases h with ⟨_,_,rfl⟩|⟨b,off,cap,cells,T,fr,h1,h2,h3,h4,h5⟩
 ·simp at hi
 ·refine ⟨b,off,cap,cells,T,fr,h1,h3,?_,?_⟩
  ·have:i*e.n+e.n<=l.length*e.n:=by
    have:(i+1)*e.n<=l.length*e.n:=Nat.mul_le_mul_right _ hi
    rw[Nat.add_mul,Nat.one_mul] at this;exact this
   omega
  ·have:=h5 i hi
   unfold Kd.nth
   rw[List.getD_eq_getElem?_getD,List.getElem?_eq_getElem hi]
   exact this
end
section

def opg (A:List (Nat×MV)) (g:Option Bool) (x:Operand):Option (MV×Prop) :=
  match opd A x with
  | some (.cnd t y)=>match g with|some b=>some (y,b=true->t=true)|none=>none
  | some y=>some (y,True)
  | none=>none

def GOK (g:Option Bool):Prop:=g=none\/g=some true

theorem zh {ρ:Nat->Hd} {m:Mem} {A:List (Nat×MV)} {a:Act} (h:v9 ρ m A a) {g:Option Bool} (hg:GOK g) {x:Operand} {y:MV} {C:Prop} (hx:opg A g x=some (y,C)) (hC:C):Cv ρ m y (a.eval x):=by
 unfold opg at hx
 split at hx
 ·rename_i t z hz
  have:=WF h hz
  split at hx
  ·rename_i b
   simp only[Option.some.injEq,Prod.mk.injEq] at hx
   obtain ⟨rfl,rfl⟩:=hx
   rcases hg with hg|hg
   ·cases hg
   ·cases hg;exact this.1 (hC rfl)
  ·cases hx
 ·rename_i z _ hz
  simp only[Option.some.injEq,Prod.mk.injEq] at hx
  obtain ⟨rfl,rfl⟩:=hx
  exact WF h hz
 ·cases hx

def strip:MV->Option Bool×MV
  | .cnd t x=>(some t,x)
  | x=>(none,x)
def impl (t:Bool):Option Bool->Prop
  | none=>True
  | some u=>t=true->u=true
theorem Kv {ρ:Nat->Hd} {m:Mem} {x:MV} {v:Value} (h:Cv ρ m x v) {t:Bool} (ht:t=true) (hi:impl t (strip x).1):Cv ρ m (strip x).2 v:=by
 unfold strip at *
 split
 ·rename_i u y;exact h.1 (hi ht)
 ·exact h

def Uk (t:Bool) (a b:MV):Option (MV×Prop) :=
  match strip a,strip b with
  | (ta,.bool p),(tb,.bool q)=>some (.bool (bif t then p else q),impl t ta/\impl (!t) tb)
  | _,_=>none

def opgs (A:List (Nat×MV)) (g:Option Bool):List Operand->Option (List MV×Prop)
  | []=>some ([],True)
  | x::l=>match opg A g x,opgs A g l with
    | some (y,C),some (ys,D)=>some (y::ys,C/\D)
    | _,_=>none

theorem j2 {ρ:Nat->Hd} {m:Mem} {A:List (Nat×MV)} {a:Act} (h:v9 ρ m A a) {g:Option Bool} (hg:GOK g):∀{l:List Operand} {ys:List MV} {C:Prop},opgs A g l=some (ys,C)->C->CvL ρ m ys (l.map a.eval)
 | [],ys,C,hx,hC=>by simp only[opgs,Option.some.injEq,Prod.mk.injEq] at hx;obtain ⟨rfl,rfl⟩:=hx;rfl
 | x::l,ys,C,hx,hC=>by
  unfold opgs at hx
  split at hx
  ·rename_i y D zs E h1 h2
   simp only[Option.some.injEq,Prod.mk.injEq] at hx
   obtain ⟨rfl,rfl⟩:=hx
   exact ⟨_,_,rfl,zh h hg h1 hC.1,j2 h hg h2 hC.2⟩
  ·cases hx

def eqm (tag:Nat) (x y:MV):Option (Bool×Prop) :=
  match x,y with
  | .bool a,.bool b=>if tag==1 then some (a==b,True) else none
  | .nilp,.nilp=>if tag==2 then some (true,True) else none
  | .p _ _,.nilp=>if tag==2 then some (false,True) else none
  | .pe _ _ _,.nilp=>if tag==2 then some (false,True) else none
  | .pim _ _,.nilp=>if tag==2 then some (false,True) else none
  | .nilp,.p _ _=>if tag==2 then some (false,True) else none
  | .nils,.nils=>if tag==3 then some (true,True) else none
  | .im (.slice _) l,.nils=>if tag==3 then some (false,l≠[]) else none
  | .hd _ _,.nils=>if tag==3 then some (false,True) else none
  | .sp _ _,.nils=>if tag==3 then some (false,True) else none
  | .nilf,.nilf=>if tag==4 then some (true,True) else none
  | .fn _ _,.nilf=>if tag==4 then some (false,True) else none
  | .bm _ _,.nilf=>if tag==4 then some (false,True) else none
  | .ifc _ _,.nili=>if tag==5 then some (false,True) else none
  | _,_=>none

def eq1:MV->MV->Option Bool
  | .int k a,.int k' b=>if k=k' then some (a==b) else none
  | .bool a,.bool b=>some (a==b)
  | .str s,.str t=>some (beqs s t)
  | _,_=>none
def eqL:List MV->List MV->Option Bool
  | [x],[y]=>eq1 x y
  | x::l,y::l'=>match eq1 x y,eqL l l' with
    | some a,some b=>some (a&&b)
    | _,_=>none
  | _,_=>none
def shp:List MV->List MV->Bool
  | [],[]=>true
  | .int k _::l,.int k' _::l'=>k==k'&&shp l l'
  | .bool _::l,.bool _::l'=>shp l l'
  | .str _::l,.str _::l'=>shp l l'
  | _,_=>false
def EqF (P:Program) (t:TypeId) (i:TI):Prop :=
  ∀(xs ys:List MV) (b:Bool),shp i.zero xs=true->shp i.zero ys=true->eqL xs ys=some b->∀(ρ:Nat->Hd) (m:Mem) (us vs:List Value),CvL ρ m xs us->CvL ρ m ys vs->∀w,∀x y:Operand,
    (eqGuard .eql t x y (.agg us.toArray) (.agg vs.toArray)).run P w=.ok () w/\(Op.equal t (.agg us.toArray) (.agg vs.toArray)).run P w=.ok b w

def JP:BinOp->Option Bool
  | .eql=>some true
  | .neq=>some false
  | _=>none

def Gt (tab:Nat->Option TI) (op:BinOp) (T:TypeId) (x y:MV):Option (MV×Prop) :=
  match x,y with
  | .int k a,.int k' b=>bin op (.int k a) (.int k' b)
  | .str s,.str t=>bin op (.str s) (.str t)
  | .agg l,.agg l'=>match JP op,tab T with
    | some e,some i=>if i.eqf&&shp i.zero l&&shp i.zero l' then (match eqL l l' with|some b=>some (.bool (if e then b else !b),True)|none=>none) else none
    | _,_=>none
  | x,y=>match JP op,tab T with
    | some e,some i=>(match eqm i.tag x y with|some (b,C)=>some (.bool (if e then b else !b),C)|none=>none)
    | _,_=>none

def slnil (tab:Nat->Option TI) (L:List (Nat×Option MObj)) (op:BinOp) (T:TypeId) (x y:MV):Option (MV×Prop) :=
  match x,y with
  | .sl key,.nils=>match JP op,tab T,ww L key with
    | some e,some i,some (.rows _ xs)=>if i.tag==3 then some (.bool (!e),xs≠[]) else none
    | _,_,_=>none
  | _,_=>none

def unM (op:UnOp) (x:MV):Option MV :=
  match op,x with
  | .neg,.int k n=>some (.int k (wb k (0-n)))
  | .not,.bool b=>some (.bool !b)
  | .xor,.int k n=>some (.int k (kxor k (if k.signed then -1 else k.max) n))
  | _,_=>none

def vi (i:TI) (x:MV) (f:Nat):Option MV :=
  match i.fields[f]? with
  | none=>none
  | some (off,n,_)=>if n==0 then none else match x with
    | .p key o=>some (.p key (o+off))
    | .pe key j o=>some (.pe key j (o+off))
    | .pf key o j=>some (.pf key o (j+off))
    | .pim k y=>match k.at y off n with|some ⟨k',z⟩=>some (.pim k' z)|none=>none
    | _=>none

def QN (i:TI) (x:MV) (f:Nat):Option MV :=
  match i.fields[f]?,x with
  | some (off,n,ag),.agg l=>if ag then some (.agg ((l.drop off).take n)) else l[off]?
  | _,_=>none

def one (l:List MV):Option MV:=match l with|[y]=>some y|_=>none
def Wy (ag:Bool) (l:List MV):Option MV:=if ag then some (.agg l) else one l

def Qu (i:TI) (L:List (Nat×Option MObj)) (x:MV):Option (MV×Prop) :=
  match x with
  | .p key off=>match ww L key with
    | some (.cells cs)=>if decide (off+i.size<=cs.length) then (Wy i.agg ((cs.drop off).take i.size)).map fun y=>(y,True) else none
    | some (.bld _ o)=>if off==1&&i.size==1&&!i.agg then some (match o with|some k=>.sl k|none=>.nils,True) else none
    | some (.arr (.int ik) n xs)=>(Wy i.agg ((List.range i.size).map fun j=>MV.int ik (xs.getD (off+j) 0))).map fun y=>(y,off+i.size<=n)
    | _=>none
  | .pf key o j=>match ww L key with
    | some (.foc pre cs _)=>if decide (j+i.size<=cs.length) then (Wy i.agg ((cs.drop j).take i.size)).map fun y=>(y,o=pre.length) else none
    | _=>none
  | .pim k y=>if k.n==i.size then (Wy i.agg (k.flat y)).map fun z=>(z,True) else none
  | .pe key j f=>match ww L key with
    | some (.rows k xs)=>(match k.at (k.nth xs j) f i.size with|some ⟨k',y⟩=>(Wy i.agg (k'.flat y)).map fun z=>(z,j<xs.length)|none=>none)
    | some (.hrow s cs)=>if decide (j*s+f+i.size<=cs.length) then (Wy i.agg ((cs.drop (j*s+f)).take i.size)).map fun y=>(y,True) else none
    | some (.rr _ _ _ h)=>(match h with|some (q,x)=>if f==0&&i.size==1&&!i.agg then some (x,j=q) else none|none=>none)
    | _=>none
  | _=>none

def ve (i:TI) (L:List (Nat×Option MObj)) (x:MV) (n:Int):Option (MV×Prop) :=
  if i.slc then match x with
    | .im (.slice e) l=>if e.n==i.esz then some (.pim e (e.nth l n.toNat),0<=n/\n<(l.length:Int)) else none
    | .sl key=>match ww L key with
      | some (.rows k xs)=>if k.n==i.esz then some (.pe key n.toNat 0,0<=n/\n<(xs.length:Int)) else none
      | some (.hrow s cs)=>if i.esz==s then some (.pe key n.toNat 0,0<=n/\n*(s:Int)<(cs.length:Int)) else none
      | some (.rr _ _ xss _)=>if i.esz==1 then some (.pe key n.toNat 0,0<=n/\n<(xss.length:Int)) else none
      | _=>none
    | .hd key c=>some (.p key (n.toNat*i.esz),0<=n/\n<(c:Int))
    | .sp key c=>match ww L key with
      | some (.rows k _)=>if k.n==i.esz then some (.pe key n.toNat 0,0<=n/\n<(c:Int)) else none
      | _=>none
    | _=>none
  else if i.arr then match x with
    | .p key off=>if decide (2<=i.alen) then some (.p key (off+n.toNat*i.esz),0<=n/\n<(i.alen:Int)) else none
    | .pim k y=>match k.at y (n.toNat*i.esz) i.esz with|some ⟨k',z⟩=>some (.pim k' z,0<=n/\n<(i.alen:Int))|none=>none
    | _=>none
  else none

def Zu:List MV->Option (IntKind×Li)
  | [.int k x]=>some (k,[x])
  | .int k x::l=>match Zu l with|some (k',xs)=>if k=k' then some (k,x::xs) else none|none=>none
  | _=>none
def sbyte (s:ByteArray) (n:Nat):Int:=((s[n]?).getD 0).toNat

def QR (i:TI) (x:MV) (n:Int):Option (MV×Prop) :=
  match x with
  | .str s=>if i.tag==7 then some (.int .u8 (sbyte s n.toNat),0<=n/\n<(s.size:Int)) else none
  | .agg l=>if i.arr&&i.esz==1&&!i.eagg&&i.alen==l.length then (match Zu l with|some (k,xs)=>some (.int k (xs.getD n.toNat 0),0<=n/\n<(l.length:Int))|none=>(match l[n.toNat]? with|some y=>some (y,0<=n/\n<(i.alen:Int))|none=>none))
      else if i.arr&&i.eagg&&i.alen*i.esz==l.length then (match Zu l with
        | some (k,xs)=>some (.agg ((List.range i.esz).map fun j=>.int k (xs.getD (n.toNat*i.esz+j) 0)),0<=n/\n<(i.alen:Int))
        | none=>none) else none
  | _=>none

def Gg (i:TI) (L:List (Nat×Option MObj)) (x:MV):Option MV :=
  if i.slc then match x with
    | .im (.slice _) l=>some (.int .i64 (l.length:Int))
    | .nils=>some (.int .i64 0)
    | .sl key=>match ww L key with
      | some (.rows _ xs)=>some (.int .i64 (xs.length:Int))
      | some (.brw _ _ xs)=>some (.int .i64 (xs.length:Int))
      | some (.hrow s cs)=>some (.int .i64 ((cs.length/s:Nat):Int))
      | some (.rr _ _ xss _)=>some (.int .i64 (xss.length:Int))
      | _=>none
    | .hd _ c=>some (.int .i64 (c:Int))
    | .sp _ c=>some (.int .i64 (c:Int))
    | _=>none
  else if i.tag==7 then match x with
    | .str s=>some (.int .i64 (s.size:Int))
    | _=>none
  else if i.arr then some (.int .i64 (i.alen:Int))
  else none

def vN:MV->List MV->Option MV
  | x,[]=>some x
  | .int k x,.int _ y::l=>vN (.int k (imin x y)) l
  | _,_=>none
def vI:MV->List MV->Option MV
  | x,[]=>some x
  | .int k x,.int _ y::l=>vI (.int k (imax x y)) l
  | _,_=>none

def mvcells:MV->List MV
  | .agg l=>l
  | x=>[x]
def solid:MV->Bool
  | .cnd _ _=>false
  | .raw _=>false
  | .tup _=>false
  | .im (.slice _) _=>true
  | .im _ _=>false
  | _=>true
def Zf (place:Nat->Option (Nat×Nat)):List MV->List (Nat×MV)->Option (List MV)
  | cs,[]=>some cs
  | cs,(i,v)::rest=>match place i with
    | none=>none
    | some (off,n)=>if solid v&&(mvcells v).length==n&&decide (off+n<=cs.length) then Zf place (cs.take off++(mvcells v++cs.drop (off+n))) rest else none

def QF (i:TI) (parts:List (Nat×MV)):Option MV :=
  if i.arr then (Zf (fun j=>some (j*i.esz,i.esz)) i.zero parts).map .agg
  else if i.fields.isEmpty then none else (Zf (fun j=>(i.fields[j]?).map fun q=>(q.1,q.2.1)) i.zero parts).map .agg

def elK:Nat->Kd->Kd
  | 1,k=>k
  | _,.pair a _=>a
  | _,k=>k
def unpairs (e:Kd):Nat->(k:Kd)->k.T->Option (List e.T)
  | 1,k,x=>if h:k=e then some [h▸x] else none
  | n+2,.pair a b,x=>if h:a=e then (match unpairs e (n+1) b x.2 with|some l=>some ((h▸x.1)::l)|none=>none) else none
  | _,_,_=>none

def Q3 (i:TI) (L:List (Nat×Option MObj)) (x:MV) (lo hi:Option Int):Option (MV×Prop) :=
  match x with
  | .sl key=>match ww L key,hi with
    | some (.rows k xs),none=>if i.slc&&k.n==i.esz then some (.sv key (lo.getD 0).toNat,0<=lo.getD 0/\lo.getD 0<(xs.length:Int)) else none
    | some (.rows k xs),some h=>if i.slc&&k.n==i.esz&&lo.isNone then some (.sp key h.toNat,0<=h/\h<=(xs.length:Int)/\xs≠[]) else none
    | some (.rr _ _ xs _),none=>if i.slc&&1==i.esz then some (.sv key (lo.getD 0).toNat,0<=lo.getD 0/\lo.getD 0<(xs.length:Int)) else none
    | some (.rr _ _ xs _),some h=>if i.slc&&1==i.esz&&lo.isNone then some (.sp key h.toNat,0<=h/\h<=(xs.length:Int)/\xs≠[]) else none
    | _,_=>none
  | .p key 0=>match ww L key,lo,hi with
    | some (.arr k n _),none,none=>if i.arr&&i.alen==n&&k.n==i.esz then some (.hd key n,True) else none
    | _,_,_=>none
  | .sp key c=>match ww L key,lo,hi with
    | some (.rows k xs),none,some h=>if i.slc&&k.n==i.esz then some (.sp key h.toNat,0<=h/\h<=(c:Int)/\c<=xs.length/\xs≠[]) else none
    | _,_,_=>none
  | .im (.slice e) l=>if i.slc&&e.n==i.esz then
      some (.im (.slice e) ((l.take (hi.getD (l.length:Int)).toNat).drop (lo.getD 0).toNat),0<=lo.getD 0/\lo.getD 0<=hi.getD (l.length:Int)/\hi.getD (l.length:Int)<=(l.length:Int)) else none
  | .str s=>if i.tag==7 then
      some (.str (s.extract (lo.getD 0).toNat (hi.getD (s.size:Int)).toNat),0<=lo.getD 0/\lo.getD 0<=hi.getD (s.size:Int)/\hi.getD (s.size:Int)<=(s.size:Int)) else none
  | .pim k y=>if i.arr&&(elK i.alen k).n==i.esz then (match unpairs (elK i.alen k) i.alen k y with
      | some l=>some (.im (.slice (elK i.alen k)) ((l.take (hi.getD (l.length:Int)).toNat).drop (lo.getD 0).toNat),0<=lo.getD 0/\lo.getD 0<=hi.getD (l.length:Int)/\hi.getD (l.length:Int)<=(l.length:Int))
      | none=>none) else none
  | _=>none

def oint (A:List (Nat×MV)) (g:Option Bool):Option Operand->Option (Option Int×Prop)
  | none=>some (none,True)
  | some x=>match opg A g x with
    | some (.int _ n,C)=>some (some n,C)
    | _=>none

def yP (A:List (Nat×MV)) (g:Option Bool):List (Nat×Operand)->Option (List (Nat×MV)×Prop)
  | []=>some ([],True)
  | (i,x)::l=>match opg A g x,yP A g l with
    | some (y,C),some (ys,D)=>some ((i,y)::ys,C/\D)
    | _,_=>none

def bstr (l:Li):ByteArray:=l.foldl (fun r n=>r.push (UInt8.ofNat n.toNat)) ByteArray.empty
def rstr (n:Int):ByteArray:=⟨#[UInt8.ofNat n.toNat]⟩
def yc (tab:Nat->Option TI) (A:List (Nat×MV)) (L:List (Nat×Option MObj)) (g:Option Bool):Op->Option (MV×Prop)
  | .move x=>opg A g x
  | .assign x=>opg A g x
  | .pick c a b=>match opg A g c,opd A a,opd A b with
    | some (.bool t,C),some x,some y=>(match Uk t x y with|some (r,D)=>some (r,C/\D)|none=>none)
    | _,_,_=>none
  | .binOp op T x y _=>match opg A g x,opg A g y with
    | some (x',C),some (y',D)=>(match Gt tab op T x' y' with
      | some (r,E)=>some (r,C/\D/\E)
      | none=>match slnil tab L op T x' y' with|some (r,E)=>some (r,C/\D/\E)|none=>none)
    | _,_=>none
  | .unOp op _ x=>match opg A g x with
    | some (x',C)=>(match unM op x' with|some r=>some (r,C)|none=>none)
    | none=>none
  | .convert s d x=>match tab s,tab d,opg A g x with
    | some _,some i,some (.int _ n,C)=>(match i.ik with|some k=>some (.int k (wb k n),C)|none=>if i.tag==7 then some (.str (rstr n),C/\0<=n/\n<128) else none)
    | some j,some i,some (.im (.slice (.int .u8)) l,C)=>if j.slc&&i.tag==7&&(tab j.elem).any (fun e=>e.ik==some .u8) then some (.str (bstr l),C) else none
    | _,_,_=>none
  | .fieldAddr S x f=>match tab S,opg A g x with
    | some i,some (x',C)=>(match vi i x' f with|some r=>some (r,C)|none=>none)
    | _,_=>none
  | .field S x f=>match tab S,opg A g x with
    | some i,some (x',C)=>(match QN i x' f with|some r=>some (r,C)|none=>none)
    | _,_=>none
  | .load T x=>match tab T,opg A g x with
    | some i,some (x',C)=>(match Qu i L x' with|some (r,D)=>some (r,C/\D)|none=>none)
    | _,_=>none
  | .indexAddr T x n=>match tab T,opg A g x,opg A g n with
    | some i,some (x',C),some (.int _ n',D)=>(match ve i L x' n' with|some (r,E)=>some (r,C/\D/\E)|none=>none)
    | _,_,_=>none
  | .index T x n=>match tab T,opg A g x,opg A g n with
    | some i,some (x',C),some (.int _ n',D)=>(match QR i x' n' with|some (r,E)=>some (r,C/\D/\E)|none=>none)
    | _,_,_=>none
  | .extract x j=>match opg A g x with
    | some (.tup l,C)=>(match l[j]? with|some r=>some (r,C)|none=>none)
    | _=>none
  | .nilCheck x=>match opg A g x with
    | some (.p k o,C)=>some (.p k o,C)
    | some (.pe k j o,C)=>some (.pe k j o,C)
    | some (.pf k o j,C)=>some (.pf k o j,C)
    | some (.pim k y,C)=>some (.pim k y,C)
    | some (.ifc t y,C)=>some (.ifc t y,C)
    | _=>none
  | .lookup T x n true=>match tab T,opg A g x,opg A g n with
    | some i,some (.mp key,C),some (.int _ _,D)=>(match ww L key with
      | some .emp=>if i.mp then some (.tup [.str ⟨#[]⟩,.bool false],C/\D) else none
      | _=>none)
    | _,_,_=>none
  | .makeInterface T x=>match tab T,opg A g x with
    | some i,some (x',C)=>if i.tag==2 then some (.ifc T x',C) else none
    | _,_=>none
  | .makeFunc (.func f) first cap=>if first.isEmpty then (match opgs A g cap.toList with|some (l,C)=>some (.fn f l,C)|none=>none) else if cap.isEmpty then (match opgs A g first.toList with|some ([x],C)=>some (.bm f x,C)|_=>none) else none
  | .build t parts=>match tab t,yP A g parts.toList with
    | some i,some (ps,C)=>(match QF i ps with|some r=>some (r,C)|none=>none)
    | _,_=>none
  | .slice T x lo hi none=>match tab T,opg A g x,oint A g lo,oint A g hi with
    | some i,some (x',C),some (lo',D),some (hi',E)=>(match Q3 i L x' lo' hi' with|some (r,F)=>some (r,C/\D/\E/\F)|none=>none)
    | _,_,_,_=>none
  | .call { callee:=.builtin .len,args,argTypes }=>match argTypes[0]?,opgs A g args.toList with
    | some T,some ([x],C)=>(match tab T with|some i=>(match Gg i L x with|some r=>some (r,C)|none=>none)|none=>none)
    | _,_=>none
  | .call { callee:=.builtin .min,args,.. }=>match opgs A g args.toList with
    | some (x::l,C)=>(match vN x l with|some r=>some (r,C)|none=>none)
    | _=>none
  | .call { callee:=.builtin .max,args,.. }=>match opgs A g args.toList with
    | some (x::l,C)=>(match vI x l with|some r=>some (r,C)|none=>none)
    | _=>none
  | _=>none
end
section

theorem xi (t:TypeId) (x y:Value):Op.equal t x y=Op.equalIn (9999+1) t x y:=rfl

def Ud (P:Program) (T:TypeId) (u v:Value) (b:Bool):Prop :=
  ∀(op:BinOp) (e:Bool) (ox oy:Operand) (w:World),JP op=some e->(do eqGuard op T ox oy u v;binOp op T u v:Sem Value).run P w=.ok (.bool (if e then b else !b)) w

theorem xL {P:Program} {T:TypeId} {u v:Value} {b:Bool} (h1:∀w,(Op.equal T u v).run P w=.ok b w) (h2:∀op ox oy w,(eqGuard op T ox oy u v).run P w=.ok () w)
  (h3:binOp .eql T u v=(do pure (.bool (← Op.equal T u v)))) (h4:binOp .neq T u v=(do pure (.bool (!(← Op.equal T u v))))):Ud P T u v b:=by
 intro op e ox oy w he
 cases op<;>simp only[JP,Option.some.injEq,reduceCtorEq] at he
 ·subst he
  rw[wc,h2];simp only
  rw[h3,wc,h1];rfl
 ·subst he
  rw[wc,h2];simp only
  rw[h4,wc,h1];rfl

theorem HF {P:Program} {T:TypeId} {i:TI} (ht:TOK P T i) {x y:MV} {b:Bool} {C:Prop} (h:eqm i.tag x y=some (b,C)) (hC:C) {ρ:Nat->Hd} {m:Mem} {u v:Value}
    (hu:Cv ρ m x u) (hv:Cv ρ m y v):Ud P T u v b:=by
  obtain ⟨d,hd,_,htag⟩:=ht.und
  have hund:=fun w=>wm hd w
  have key:∀w,(Op.equal T u v).run P w=match (Op.equalIn (9999+1) T u v).run P w with|r=>r:=fun w=>rfl
  unfold eqm at h
  split at h
  · -- bools
    split at h
    · rename_i a c hg
      simp only[Option.some.injEq,Prod.mk.injEq] at h;obtain ⟨rfl,rfl⟩:=h
      simp only[Cv] at hu hv;subst hu hv
      simp only[beq_iff_eq] at hg;rw[hg] at htag
      have:d=.bool:=by cases d<;>simp_all [xJ]
      subst this
      refine xL (fun w=>?_) (fun op ox oy w=>?_) rfl rfl
      · rw[xi,Op.equalIn,wc,hund];rfl
      · cases op<;>rfl
    · cases h
  all_goals first
    | (split at h
       case isTrue hg =>
        simp only[Option.some.injEq,Prod.mk.injEq] at h;obtain ⟨rfl,rfl⟩:=h
        simp only[Cv] at hu hv
        simp only[beq_iff_eq] at hg;rw[hg] at htag
        first
          | (subst hu hv
             obtain ⟨e,rfl⟩:∃e,d=.pointer e:=by cases d<;>simp_all [xJ]
             refine xL (fun w=>?_) (fun op ox oy w=>?_) rfl rfl
             · rw[xi,Op.equalIn,wc,hund];rfl
             · cases op<;>rfl)
          | (subst hu hv
             obtain ⟨e,rfl⟩:∃e,d=.slice e:=by cases d<;>simp_all [xJ]
             refine xL (fun w=>?_) (fun op ox oy w=>?_) rfl rfl
             · rw[xi,Op.equalIn,wc,hund];rfl
             · cases op<;>rfl)
          | (subst hu hv
             obtain ⟨e1,e2,e3,rfl⟩:∃e1 e2 e3,d=.func e1 e2 e3:=by cases d<;>simp_all [xJ]
             refine xL (fun w=>?_) (fun op ox oy w=>?_) rfl rfl
             · rw[xi,Op.equalIn,wc,hund];rfl
             · cases op<;>rfl)
          | (obtain ⟨vs,rfl,_⟩:=hu;subst hv
             obtain ⟨e1,e2,e3,rfl⟩:∃e1 e2 e3,d=.func e1 e2 e3:=by cases d<;>simp_all [xJ]
             refine xL (fun w=>?_) (fun op ox oy w=>?_) rfl rfl
             · rw[xi,Op.equalIn,wc,hund];rfl
             · cases op<;>rfl)
          | (obtain ⟨z,rfl,_⟩:=hu;subst hv
             obtain ⟨e,rfl⟩:∃e,d=.interface e:=by cases d<;>simp_all [xJ]
             refine xL (fun w=>?_) (fun op ox oy w=>?_) rfl rfl
             · rw[xi,Op.equalIn,wc,hund];rfl
             · cases op<;>rfl)
          | (obtain ⟨b,off,cells,T',fr,rfl,_⟩:=hu;subst hv
             obtain ⟨e,rfl⟩:∃e,d=.pointer e:=by cases d<;>simp_all [xJ]
             refine xL (fun w=>?_) (fun op ox oy w=>?_) rfl rfl
             · rw[xi,Op.equalIn,wc,hund];rfl
             · cases op<;>rfl)
          | (obtain ⟨z,hz,hs⟩:=hu;subst hv
             simp only[List.cons.injEq,and_true] at hz;subst hz
             obtain ⟨e,rfl⟩:∃e,d=.slice e:=by cases d<;>simp_all [xJ]
             rcases hs with ⟨_,_,hs⟩|⟨b,off,cap,cells,T',fr,rfl,_⟩
             · exact absurd hs hC
             refine xL (fun w=>?_) (fun op ox oy w=>?_) rfl rfl
             · rw[xi,Op.equalIn,wc,hund];rfl
             · cases op<;>rfl)
       case isFalse=>cases h)
    | (cases h;done)

theorem Gs {P:Program} {tab:Nat->Option TI} (hT:∀t i,tab t=some i->TOK P t i) (hE:∀t i,tab t=some i->i.eqf=true->EqF P t i) {op:BinOp} {T:TypeId} {x y r:MV} {C:Prop}
  (h:Gt tab op T x y=some (r,C)) (hC:C) {ρ:Nat->Hd} {m:Mem} {u v:Value} (hu:Cv ρ m x u) (hv:Cv ρ m y v) (ox oy:Operand) (w:World) :
  ∃z,(do eqGuard op T ox oy u v;binOp op T u v:Sem Value).run P w=.ok z w/\Cv ρ m r z:=by
 unfold Gt at h
 split at h
 ·rename_i k a k' c
  obtain ⟨z,h1,h2⟩:=UV h hC T w hu hv
  simp only[Cv] at hu hv;subst hu hv
  refine ⟨z,?_,h2⟩
  rw[wc]
  have:(eqGuard op T ox oy (.int k a) (.int k' c)).run P w=.ok () w:=by cases op<;>rfl
  rw[this];exact h1
 ·rename_i s t
  obtain ⟨z,h1,h2⟩:=UV h hC T w hu hv
  simp only[Cv] at hu hv;subst hu hv
  refine ⟨z,?_,h2⟩
  rw[wc]
  have:(eqGuard op T ox oy (.string s) (.string t)).run P w=.ok () w:=by cases op<;>rfl
  rw[this];exact h1
 ·rename_i l l'
  split at h
  ·rename_i e i he hi
   split at h
   ·rename_i hc
    simp only[Bool.and_eq_true] at hc
    split at h
    ·rename_i b hb
     simp only[Option.some.injEq,Prod.mk.injEq] at h;obtain ⟨rfl,rfl⟩:=h
     obtain ⟨us,rfl,cu⟩:=hu
     obtain ⟨vs,rfl,cv⟩:=hv
     have hF:=hE T i hi hc.1.1 l l' b hc.1.2 hc.2 hb ρ m us vs cu cv
     refine ⟨_,?_,rfl⟩
     cases op<;>simp only[JP,Option.some.injEq,reduceCtorEq] at he<;>subst he
     ·rw[wc,(hF w ox oy).1]
      show (do pure (.bool (← Op.equal T (.agg us.toArray) (.agg vs.toArray))):Sem Value).run P w=_
      rw[wc,(hF w ox oy).2];rfl
     ·rw[wc,show eqGuard .neq T ox oy (.agg us.toArray) (.agg vs.toArray)=eqGuard .eql T ox oy (.agg us.toArray) (.agg vs.toArray) from rfl,(hF w ox oy).1]
      show (do pure (.bool (!(← Op.equal T (.agg us.toArray) (.agg vs.toArray)))):Sem Value).run P w=_
      rw[wc,(hF w ox oy).2];rfl
    ·cases h
   ·cases h
  ·cases h
 ·split at h
  ·rename_i e i he hi
   split at h
   ·rename_i b D hb
    simp only[Option.some.injEq,Prod.mk.injEq] at h;obtain ⟨rfl,rfl⟩:=h
    exact ⟨_,HF (hT T i hi) hb hC hu hv op e ox oy w he,rfl⟩
   ·cases h
  ·cases h
end
section

theorem g7 {P:Program} {op:UnOp} {x r:MV} (h:unM op x=some r) {ρ:Nat->Hd} {m:Mem} {u:Value} (hu:Cv ρ m x u) (w:World) :
    ∃z,(Op.unary op u).run P w=.ok z w/\Cv ρ m r z:=by
  unfold unM at h
  split at h
  all_goals first
    | (cases h;done)
    | (simp only[Option.some.injEq] at h;subst h
       simp only[Cv] at hu;subst hu
       exact ⟨_,rfl,rfl⟩)

theorem yL {P:Program} {S f:Nat} {fs:Array Field} {g:Field} (hd:P.underlying S=some (.struct fs)) (hg:fs[f]? = some g) {n:Nat} (hn:n≠0) (hs:sizeb P g.type n=true) (b off:Nat) (w:World) :
  (Instr.fieldAt S (.pointer (some ⟨b,off,none⟩)) f).run P w=.ok (.pointer (some ⟨b,off+g.offset,none⟩)) w:=by
 obtain ⟨j,hj,hjs⟩:=zW hs
 unfold Instr.fieldAt
 rw[wc,wm hd]
 simp only[hg]
 rw[wc,show (Instr.sureAddr (.pointer (some ⟨b,off,none⟩))).run P w=.ok ⟨b,off,none⟩ w from rfl]
 simp only
 rw[wc]
 have:(fieldPlace ⟨b,off,none⟩ g).run P w=.ok ⟨b,off+g.offset,none⟩ w:=by
  unfold fieldPlace
  rw[wc,wZ hj,hjs]
  simp only[hn,if_false]
  rw[Q4];rfl
 rw[this];rfl

theorem ZY {P:Program} {S:Nat} {i:TI} (ht:TOK P S i) {x r:MV} {f:Nat} (h:vi i x f=some r) {ρ:Nat->Hd} {m:Mem} {u:Value} (hu:Cv ρ m x u) (w:World) :
  ∃z,(Instr.fieldAt S u f).run P w=.ok z w/\Cv ρ m r z:=by
 unfold vi at h
 split at h
 ·cases h
 ·rename_i off n ag hf
  obtain ⟨fs,g,hd,hg,ho,hs,_⟩:=ht.fld f _ hf
  simp only at ho hs
  split at h
  ·cases h
  ·rename_i hn
   simp only[beq_iff_eq] at hn
   split at h
   ·rename_i key o
    simp only[Option.some.injEq] at h;subst h
    simp only[Cv] at hu;subst hu
    exact ⟨_,yL hd hg hn hs _ _ w,by rw[ho];rfl⟩
   ·rename_i key j o
    simp only[Option.some.injEq] at h;subst h
    simp only[Cv] at hu;subst hu
    exact ⟨_,yL hd hg hn hs _ _ w,by simp only[Cv];rw[ho,Nat.add_assoc]⟩
   ·rename_i key o j
    simp only[Option.some.injEq] at h;subst h
    simp only[Cv] at hu;subst hu
    exact ⟨_,yL hd hg hn hs _ _ w,by simp only[Cv];rw[ho,Nat.add_assoc]⟩
   ·rename_i k y
    split at h
    ·rename_i k' z hz
     simp only[Option.some.injEq] at h;subst h
     obtain ⟨b,o,cells,T,fr,rfl,hm,hl,hr⟩:=hu
     obtain ⟨g1,g2,g3⟩:=ug k y _ off n k' z hr hz
     refine ⟨_,yL hd hg hn hs _ _ w,b,o+off,cells,T,fr,by rw[ho],hm,by omega,?_⟩
     rw[g1]
     rw[List.drop_take,List.drop_drop,List.take_take,Nat.min_eq_left (by omega)] at g3
     exact g3
    ·cases h
   ·cases h

theorem Wq {P:Program} {t n off:Nat} {ag:Bool} (hs:sizeb P t n=true) (ha:aggb P t ag=true) (cs:List Value) (v:Value) (hv:if ag then v=.agg ((cs.drop off).take n).toArray else cs[off]? = some v) (w:World) :
  (part t cs.toArray off).run P w=.ok v w:=by
 obtain ⟨j,hj,hjs⟩:=zW hs
 obtain ⟨d,hd,hda⟩:=XN ha
 unfold part
 rw[wc,yV hd,hda]
 cases ag
 ·simp only[Bool.false_eq_true,if_false] at hv ⊢
  simp[hv,pure]
 ·simp only[if_true] at hv ⊢
  rw[wc,wZ hj,hjs]
  subst hv
  simp only[pure,Sem.run,List.extract_toArray,Result.ok.injEq,Value.agg.injEq,and_true]
  rw[List.extract_eq_take_drop]
  simp

theorem Y5 {P:Program} {S:Nat} {i:TI} (ht:TOK P S i) {x r:MV} {f:Nat} (h:QN i x f=some r) {ρ:Nat->Hd} {m:Mem} {u:Value} (hu:Cv ρ m x u) (w:World) :
  ∃z,(Instr.field S u f).run P w=.ok z w/\Cv ρ m r z:=by
 unfold QN at h
 split at h
 ·rename_i off n ag l hf
  obtain ⟨fs,g,hd,hg,ho,hs,ha⟩:=ht.fld f _ hf
  simp only at ho hs ha
  obtain ⟨vs,rfl,hl⟩:=hu
  have fin:∀v,(part g.type vs.toArray g.offset).run P w=.ok v w->(Instr.field S (.agg vs.toArray) f).run P w=.ok v w:=by
   intro v hv
   unfold Instr.field
   rw[wc,wm hd]
   simp only[hg]
   rw[wc,show (asAgg (.agg vs.toArray)).run P w=.ok vs.toArray w from rfl]
   exact hv
  split at h
  ·rename_i hag
   simp only[Option.some.injEq] at h;subst h
   exact ⟨.agg ((vs.drop off).take n).toArray,fin _ (Wq hs ha vs _ (by rw[hag,ho];rfl) w),_,rfl,CvL.take n (CvL.drop off hl)⟩
  ·rename_i hag
   obtain ⟨v,hv,hc⟩:=CvL.get hl off r h
   exact ⟨v,fin _ (Wq hs ha vs v (by rw[if_neg hag,ho];exact hv) w),hc⟩
 ·cases h

theorem yX {ρ:Nat->Hd} {m:Mem} {ag:Bool} {l:List MV} {y:MV} (h:Wy ag l=some y) {vs:List Value} (hc:CvL ρ m l vs):Cv ρ m y (X0 ag vs)/\(ag=true\/vs.length=1):=by
 unfold Wy at h
 unfold X0
 split at h
 ·rename_i hag
  simp only[Option.some.injEq] at h;subst h
  rw[if_pos hag]
  exact ⟨⟨vs,rfl,hc⟩,.inl hag⟩
 ·rename_i hag
  rw[if_neg hag]
  unfold one at h
  split at h
  ·simp only[Option.some.injEq] at h;subst h
   obtain ⟨v,us,rfl,h1,h2⟩:=hc
   simp only[CvL] at h2;subst h2
   exact ⟨h1,.inr rfl⟩
  ·cases h

theorem jh {P:Program} {T:Nat} (b off:Nat) (w:World):(Instr.loadAt T (.pointer (some ⟨b,off,none⟩))).run P w=(loadVar T ⟨b,off,none⟩).run P w:=rfl

theorem Y8 {m:Mem} {ik:IntKind}:∀{xs:Li} {vs:List Value},vs.length=xs.length->(∀i (h:i<xs.length),(Kd.int ik).R m xs[i] ((vs.drop (i*(Kd.int ik).n)).take (Kd.int ik).n))->vs=xs.map (Value.int ik):=by
 intro xs vs hl h
 apply List.ext_getElem (by simpa using hl)
 intro i h1 h2
 have hi:i<xs.length:=by omega
 have:=h i hi
 have e:((vs.drop (i*1)).take 1)=[.int ik xs[i]]:=this
 rw[Nat.mul_one,List.drop_eq_getElem_cons h1] at e
 simp only[List.take_succ_cons,List.take_zero,List.cons.injEq,and_true] at e
 rw[e,List.getElem_map]
theorem GV {ρ:Nat->Hd} {m:Mem} {ik:IntKind} {xs:Li} (off:Nat):∀n,off+n<=xs.length->CvL ρ m ((List.range n).map fun j=>MV.int ik (xs.getD (off+j) 0)) (((xs.map (Value.int ik)).drop off).take n):=by
 intro n hn
 have e:((xs.map (Value.int ik)).drop off).take n=((List.range n).map fun j=>Value.int ik (xs.getD (off+j) 0)):=by
  apply List.ext_getElem
  ·simp;omega
  ·intro i h1 h2
   simp only[List.length_map,List.length_range] at h2
   simp only[List.getElem_take,List.getElem_drop,List.getElem_map,List.getElem_range]
   rw[List.getD_eq_getElem?_getD,List.getElem?_eq_getElem (by omega)];rfl
 rw[e]
 clear hn e
 generalize List.range n=l
 induction l with
 | nil=>rfl
 | cons a l ih=>exact ⟨_,_,rfl,rfl,ih⟩
theorem KL {P:Program} {T:Nat} {i:TI} (ht:TOK P T i) {L:List (Nat×Option MObj)} {x r:MV} {C:Prop} (h:Qu i L x=some (r,C)) (hC:C) {ρ:Nat->Hd} {m:Mem} {w:World}
  (hO:∀k o,ww L k=some o->osat ρ m w k o) (hM:∀b o,m b=some o->w.heap[b]? = some o) {u:Value} (hu:Cv ρ m x u) :
  ∃z,(Instr.loadAt T u).run P w=.ok z w/\Cv ρ m r z:=by
 unfold Qu at h
 split at h
 ·rename_i key off
  split at h
  ·rename_i cs hk
   split at h
   ·rename_i hlen
    simp only[decide_eq_true_eq] at hlen
    simp only[Option.map_eq_some_iff,Prod.mk.injEq] at h
    obtain ⟨y,hy,rfl,rfl⟩:=h
    obtain ⟨_,vs,T',hb,hl⟩:=hO _ _ hk
    simp only[Cv] at hu;subst hu
    have hvl:=CvL.length hl
    obtain ⟨g1,g2⟩:=yX hy (CvL.take i.size (CvL.drop off hl))
    refine ⟨_,?_,g1⟩
    rw[jh,jb ht hb (by simp;omega) ?_]
    rcases g2 with g2|g2
    ·exact .inl g2
    ·right;rw[List.length_take,List.length_drop] at g2;omega
   ·cases h
  ·rename_i T' o hk
   split at h
   ·rename_i hlen
    simp only[Bool.and_eq_true,beq_iff_eq,Bool.not_eq_true'] at hlen
    obtain ⟨⟨rfl,h1⟩,h2⟩:=hlen
    simp only[Option.some.injEq,Prod.mk.injEq] at h
    obtain ⟨rfl,rfl⟩:=h
    obtain ⟨_,p,hb,_⟩:=hO _ _ hk
    simp only[Cv] at hu;subst hu
    refine ⟨UL ρ o,?_,?_⟩
    ·rw[jh,jb ht hb (by simp[h1]) (.inr (by rw[h1]))]
     rw[h1,h2];rfl
    ·cases o with
     | none=>rfl
     | some k=>rfl
   ·cases h
  ·rename_i ik n xs hk
   simp only[Option.map_eq_some_iff,Prod.mk.injEq] at h
   obtain ⟨y,hy,rfl,rfl⟩:=h
   obtain ⟨_,hl,vs,T',hb,hvl,hel⟩:=hO _ _ hk
   simp only[Cv] at hu;subst hu
   have hvl:vs.length=n:=by simpa [Kd.n] using hvl
   have hvs:=Y8 (by omega) hel
   obtain ⟨g1,g2⟩:=yX hy (hvs▸GV (ρ:=ρ) (m:=m) off i.size (by omega))
   refine ⟨_,?_,g1⟩
   rw[jh,jb ht hb (by simp;omega) ?_]
   rcases g2 with g2|g2
   ·exact .inl g2
   ·right;rw[List.length_take,List.length_drop] at g2;omega
  ·cases h
 ·rename_i key o j
  split at h
  ·rename_i pre cs post hk
   split at h
   ·rename_i hlen
    simp only[decide_eq_true_eq] at hlen
    simp only[Option.map_eq_some_iff,Prod.mk.injEq] at h
    obtain ⟨y,hy,rfl,rfl⟩:=h
    obtain ⟨_,v1,v2,v3,T',hb,l1,hl,l3⟩:=hO _ _ hk
    simp only[Cv] at hu;subst hu
    have hvl:=CvL.length hl
    have hv1:=CvL.length l1
    obtain ⟨g1,g2⟩:=yX hy (CvL.take i.size (CvL.drop j hl))
    have hsh:((v1++(v2++v3)).drop (o+j)).take i.size=(v2.drop j).take i.size:=by
     rw[hC,<-hv1,List.drop_append,List.drop_of_length_le (by omega),List.nil_append,show v1.length+j-v1.length=j by omega,List.drop_append_of_le_length (by omega),List.take_append_of_le_length (by rw[List.length_drop];omega)]
    refine ⟨_,?_,g1⟩
    rw[jh,jb ht hb (by rw[hC,<-hv1];simp;omega) ?_]
    ·simp only[hsh]
    ·rcases g2 with g2|g2
     ·exact .inl g2
     ·right;rw[List.length_take,List.length_drop] at g2;omega
   ·cases h
  ·cases h
 ·rename_i k y
  split at h
  ·rename_i hn
   simp only[beq_iff_eq] at hn
   simp only[Option.map_eq_some_iff,Prod.mk.injEq] at h
   obtain ⟨z,hz,rfl,rfl⟩:=h
   obtain ⟨b,off,cells,T',fr,rfl,hm,hl,hr⟩:=hu
   rw[hn] at hr hl
   have hf:=Wo (ρ:=ρ) k y _ hr
   obtain ⟨g1,g2⟩:=yX hz hf
   refine ⟨_,?_,g1⟩
   rw[jh,jb ht (hM _ _ hm) hl ?_]
   rcases g2 with g2|g2
   ·exact .inl g2
   ·right;rw[List.length_take,List.length_drop] at g2;simp at g2;omega
  ·cases h
 ·rename_i key j f
  split at h
  ·rename_i k xs hk
   split at h
   ·rename_i k' y hat
    simp only[Option.map_eq_some_iff,Prod.mk.injEq] at h
    obtain ⟨z,hz,rfl,rfl⟩:=h
    obtain ⟨g0,g1,g2⟩:=hO _ _ hk
    rcases g2 with ⟨_,rfl⟩|⟨_,hcap,vs,T',hb,hvl,hel⟩
    ·simp at hC
    ·have hr:=hel j hC
     have hnth:k.nth xs j=xs[j]:=by unfold Kd.nth;rw[List.getD_eq_getElem?_getD,List.getElem?_eq_getElem hC];rfl
     rw[<-hnth] at hr
     obtain ⟨p1,p2,p3⟩:=ug k _ _ f i.size k' y hr hat
     rw[List.drop_take,List.drop_drop,List.take_take,Nat.min_eq_left (by omega)] at p3
     simp only[Cv] at hu;subst hu
     rw[g1]
     have hf:=Wo (ρ:=ρ) k' y _ p3
     obtain ⟨q1,q2⟩:=yX hz hf
     have hjn:(j+1)*k.n<=(ρ key).cap*k.n:=Nat.mul_le_mul_right _ (by omega)
     rw[Nat.add_mul,Nat.one_mul] at hjn
     refine ⟨_,?_,q1⟩
     rw[jh,jb ht hb (by simp;omega) ?_]
     rcases q2 with q2|q2
     ·exact .inl q2
     ·right;rw[List.length_take,List.length_drop] at q2;omega
   ·cases h
  ·rename_i s cs hk
   split at h
   ·rename_i hlen
    simp only[decide_eq_true_eq] at hlen
    simp only[Option.map_eq_some_iff,Prod.mk.injEq] at h
    obtain ⟨y,hy,rfl,rfl⟩:=h
    obtain ⟨g0,⟨g1,_⟩,_,g2,vs,T',hb,hvl,g3⟩:=hO _ _ hk
    simp only[Cv] at hu;subst hu
    have hcl:=CvL.length g3
    rw[List.length_take] at hcl
    have hc:=CvL.take i.size (CvL.drop (j*s+f) g3)
    rw[List.drop_take,List.take_take,Nat.min_eq_left (by omega)] at hc
    obtain ⟨q1,q2⟩:=yX hy hc
    refine ⟨_,?_,q1⟩
    rw[g1,jh,jb ht hb (by simp;omega) ?_]
    rcases q2 with q2|q2
    ·exact .inl q2
    ·right;rw[List.length_take,List.length_drop] at q2;omega
   ·cases h
  ·rename_i own e xss hh hk
   split at h
   ·rename_i q x
    split at h
    ·rename_i hlen
     simp only[Bool.and_eq_true,beq_iff_eq,Bool.not_eq_true'] at hlen
     obtain ⟨⟨rfl,h1⟩,h2⟩:=hlen
     simp only[Option.some.injEq,Prod.mk.injEq] at h
     obtain ⟨rfl,rfl⟩:=h
     obtain ⟨g0,g1,g2⟩:=hO _ _ hk
     subst hC
     simp only[Cv] at hu;subst hu
     rcases g2 with ⟨_,g2⟩|⟨_,_,vs,T',hb,hvl,_,g4,_⟩
     ·cases g2.2
     ·obtain ⟨v,hv,hc⟩:=g4 _ _ rfl
      obtain ⟨hlt,hve⟩:=List.getElem?_eq_some_iff.1 hv
      refine ⟨v,?_,hc⟩
      rw[g1,Nat.mul_one,Nat.add_zero,jh,jb ht hb (by simp[h1];omega) (.inr (by rw[h1]))]
      rw[h1,h2]
      have e1:(vs.drop j).take 1=[v]:=by rw[List.drop_eq_getElem_cons hlt,hve];rfl
      simp only[e1];rfl
    ·cases h
   ·cases h
  ·cases h
 ·cases h

theorem kx (b off n sz:Nat):(⟨b,off,none⟩:Addr).add (n*sz)=⟨b,off+n*sz,none⟩:=Q4 b off (n*sz)

theorem Z2 {P:Program} {T:Nat} {i:TI} (ht:TOK P T i) {L:List (Nat×Option MObj)} {x r:MV} {n:Int} {C:Prop} (h:ve i L x n=some (r,C)) (hC:C) {ρ:Nat->Hd} {m:Mem} {w:World}
  (hO:∀k o,ww L k=some o->osat ρ m w k o) {u:Value} (hu:Cv ρ m x u) (k:IntKind):∃z,(Instr.indexAt T u (.int k n)).run P w=.ok z w/\Cv ρ m r z:=by
 unfold ve at h
 split at h
 ·rename_i hslc
  obtain ⟨hund,hsz⟩:=ht.slc hslc
  obtain ⟨j,hj,hjs⟩:=zW hsz
  have hag:∀w,(underlying T).run P w=.ok (.slice i.elem) w:=fun w=>wm hund w
  have fin:∀(b off len cap:Nat),0<=n/\n<(len:Int)->(Instr.indexAt T (.slice (some ⟨b,off,none⟩) len cap) (.int k n)).run P w=.ok (.pointer (some ⟨b,off+n.toNat*i.esz,none⟩)) w:=by
   intro b off len cap hn
   unfold Instr.indexAt
   simp only[asIntOf,bind,Sem.bind,pure,vw,hag,Sem.run,hn,and_self,if_true,wZ hj,hjs,kx]
  split at h
  ·rename_i e l
   split at h
   ·rename_i he
    simp only[beq_iff_eq] at he
    simp only[Option.some.injEq,Prod.mk.injEq] at h;obtain ⟨rfl,rfl⟩:=h
    obtain ⟨v,hv,hs⟩:=hu
    simp only[List.cons.injEq,and_true] at hv;subst hv
    obtain ⟨b,off,cap,cells,T',fr,rfl,h1,h2,h3⟩:=uj hs (i:=n.toNat) (by omega)
    refine ⟨_,fin b off l.length cap hC,b,_,cells,T',fr,rfl,h1,?_,?_⟩
    ·rw[<-he];exact h2
    ·rw[<-he];exact h3
   ·cases h
  ·rename_i key
   split at h
   ·rename_i k' xs hk
    split at h
    ·rename_i he
     simp only[beq_iff_eq] at he
     simp only[Option.some.injEq,Prod.mk.injEq] at h;obtain ⟨rfl,rfl⟩:=h
     obtain ⟨g0,g1,g2⟩:=hO _ _ hk
     simp only[Cv] at hu;subst hu
     rcases g2 with ⟨_,rfl⟩|⟨hn,_⟩
     ·simp at hC;omega
     ·refine ⟨_,by unfold Hd.hdr;rw[hn,g0];exact fin _ 0 xs.length _ hC,?_⟩
      simp only[Cv];rw[g1,he,Nat.zero_add,Nat.add_zero]
    ·cases h
   ·rename_i s cs hk
    split at h
    ·rename_i he
     simp only[beq_iff_eq] at he
     simp only[Option.some.injEq,Prod.mk.injEq] at h;obtain ⟨rfl,rfl⟩:=h
     obtain ⟨g0,⟨g1,_⟩,hn,g2⟩:=hO _ _ hk
     simp only[Cv] at hu;subst hu
     have hlt:n<((ρ key).len:Int):=by
      rcases Int.lt_or_le n ((ρ key).len:Int) with hx|hx
      ·exact hx
      ·have h1:((ρ key).len:Int)*(s:Int)<=n*(s:Int):=Int.mul_le_mul_of_nonneg_right hx (by omega)
       have h2:((ρ key).len:Int)*(s:Int)=(cs.length:Int):=by rw[<-g0];exact (Int.natCast_mul _ _).symm
       have:=hC.2
       omega
     refine ⟨_,by unfold Hd.hdr;rw[hn];exact fin _ 0 (ρ key).len _ ⟨hC.1,hlt⟩,?_⟩
     simp only[Cv];rw[g1,he,Nat.zero_add,Nat.add_zero]
    ·cases h
   ·rename_i own e xss hh hk
    split at h
    ·rename_i he
     simp only[beq_iff_eq] at he
     simp only[Option.some.injEq,Prod.mk.injEq] at h;obtain ⟨rfl,rfl⟩:=h
     obtain ⟨g0,g1,g2⟩:=hO _ _ hk
     simp only[Cv] at hu;subst hu
     rcases g2 with ⟨_,rfl,_⟩|⟨hn,_⟩
     ·simp at hC;omega
     ·refine ⟨_,by unfold Hd.hdr;rw[hn,g0];exact fin _ 0 xss.length _ hC,?_⟩
      simp only[Cv];rw[g1,he,Nat.zero_add,Nat.add_zero]
    ·cases h
   ·cases h
  ·rename_i key c
   simp only[Option.some.injEq,Prod.mk.injEq] at h;obtain ⟨rfl,rfl⟩:=h
   simp only[Cv] at hu;subst hu
   exact ⟨_,fin _ 0 c c hC,by simp only[Cv,Nat.zero_add]⟩
  ·rename_i key c
   split at h
   ·rename_i k' xs hk
    split at h
    ·rename_i he
     simp only[beq_iff_eq] at he
     simp only[Option.some.injEq,Prod.mk.injEq] at h;obtain ⟨rfl,rfl⟩:=h
     obtain ⟨g0,g1,g2⟩:=hO _ _ hk
     simp only[Cv] at hu;subst hu
     refine ⟨_,fin _ 0 c _ hC,?_⟩
     simp only[Cv];rw[g1,he,Nat.zero_add,Nat.add_zero]
    ·cases h
   ·cases h
  ·cases h
 ·split at h
  ·rename_i harr
   obtain ⟨hund,hsz,_⟩:=ht.arr harr
   obtain ⟨j,hj,hjs⟩:=zW hsz
   have hag:∀w,(underlying T).run P w=.ok (.array i.alen i.elem) w:=fun w=>wm hund w
   split at h
   ·rename_i key off
    split at h
    ·simp only[Option.some.injEq,Prod.mk.injEq] at h;obtain ⟨rfl,rfl⟩:=h
     simp only[Cv] at hu;subst hu
     refine ⟨_,?_,rfl⟩
     unfold Instr.indexAt
     simp only[asIntOf,bind,Sem.bind,pure,vw,hag,Sem.run,hC,and_self,if_true,wZ hj,hjs,kx,Instr.sureAddr]
    ·cases h
   ·rename_i k' y
    split at h
    ·rename_i k'' z hz
     simp only[Option.some.injEq,Prod.mk.injEq] at h;obtain ⟨rfl,rfl⟩:=h
     obtain ⟨b,o,cells,T',fr,rfl,hm,hl,hr⟩:=hu
     obtain ⟨g1,g2,g3⟩:=ug k' y _ _ _ k'' z hr hz
     refine ⟨.pointer (some ⟨b,o+n.toNat*i.esz,none⟩),?_,b,o+n.toNat*i.esz,cells,T',fr,rfl,hm,by omega,?_⟩
     ·unfold Instr.indexAt
      simp only[asIntOf,bind,Sem.bind,pure,vw,hag,Sem.run,hC,and_self,if_true,wZ hj,hjs,kx,Instr.sureAddr]
     ·rw[g1]
      rw[List.drop_take,List.drop_drop,List.take_take,Nat.min_eq_left (by omega)] at g3
      exact g3
    ·cases h
   ·cases h
  ·cases h

theorem Km {ρ:Nat->Hd} {m:Mem}:∀{l:List MV} {k:IntKind} {xs:Li} {vs:List Value},Zu l=some (k,xs)->CvL ρ m l vs->xs.length=l.length/\∀(j:Nat),j<l.length->vs[j]? = some (.int k (xs.getD j 0)):=by
 intro l
 induction l with
 | nil=>intro k xs vs h;simp[Zu] at h
 | cons y l ih =>
  intro k xs vs h hc
  unfold Zu at h
  split at h
  ·rename_i k0 x0 heq
   simp only[List.cons.injEq] at heq
   obtain ⟨rfl,rfl⟩:=heq
   simp only[Option.some.injEq,Prod.mk.injEq] at h;obtain ⟨rfl,rfl⟩:=h
   obtain ⟨v,us,rfl,hv,hus⟩:=hc
   simp only[Cv] at hv;subst hv
   refine ⟨rfl,fun j hj=>?_⟩
   have:j=0:=by simpa using hj
   subst this;rfl
  ·rename_i k0 x0 l0 _ heq
   simp only[List.cons.injEq] at heq
   obtain ⟨rfl,rfl⟩:=heq
   split at h
   ·rename_i k' xs' hxs
    split at h
    ·rename_i hk;subst hk
     simp only[Option.some.injEq,Prod.mk.injEq] at h;obtain ⟨rfl,rfl⟩:=h
     obtain ⟨v,us,rfl,hv,hus⟩:=hc
     simp only[Cv] at hv;subst hv
     obtain ⟨g1,g2⟩:=ih hxs hus
     refine ⟨by simp[g1],fun j hj=>?_⟩
     cases j with
     | zero=>rfl
     | succ j=>simpa using g2 j (by simpa using hj)
    ·cases h
   ·cases h
  ·cases h

theorem Qk {ρ:Nat->Hd} {m:Mem} {k:IntKind} (g:Nat->Int):∀(vs:List Value) (o:Nat),(∀j,j<vs.length->vs[j]? = some (.int k (g (o+j))))->CvL ρ m ((List.range vs.length).map fun j=>.int k (g (o+j))) vs
 | [],_,_=>rfl
 | v::vs,o,h=>by
  have h0:=h 0 (by simp)
  simp only[List.getElem?_cons_zero,Option.some.injEq,Nat.add_zero] at h0
  subst h0
  rw[List.length_cons,List.range_succ_eq_map,List.map_cons,List.map_map]
  refine ⟨_,vs,rfl,rfl,?_⟩
  have:=Qk (ρ:=ρ) (m:=m) (k:=k) g vs (o+1) (fun j hj=>by
   have:=h (j+1) (by simpa using hj)
   rw[List.getElem?_cons_succ] at this
   rw[this,show o+(j+1)=o+1+j by omega])
  have e:(fun j=>MV.int k (g (o+1+j)))=((fun j=>MV.int k (g (o+j))) ∘ Nat.succ):=by
   funext j;simp only[Function.comp,Nat.succ_eq_add_one];rw[show o+(j+1)=o+1+j by omega]
  rw[<-e];exact this
theorem Kg {P:Program} {t s:Nat} {e:TypeDesc} (h:P.underlying t=some e) (ha:vo e=true) {j:TypeInfo} (hj:P.info? t=some j) (hs:j.size=s) {cs:Array Value} {o:Nat} (w:World):(part t cs o).run P w=.ok (.agg (cs.extract o (o+s))) w:=by
 unfold part
 rw[wc,yV h,ha]
 simp only[if_true]
 rw[wc,wZ hj,hs];rfl
theorem YY {P:Program} {T:Nat} {i:TI} (ht:TOK P T i) {x r:MV} {n:Int} {C:Prop} (h:QR i x n=some (r,C)) (hC:C) {ρ:Nat->Hd} {m:Mem} {u:Value} (hu:Cv ρ m x u) (k:IntKind) (w:World) :
  ∃z,(Instr.index T u (.int k n)).run P w=.ok z w/\Cv ρ m r z:=by
 unfold QR at h
 split at h
 ·rename_i s
  split at h
  ·rename_i hg
   simp only[beq_iff_eq] at hg
   simp only[Option.some.injEq,Prod.mk.injEq] at h;obtain ⟨rfl,rfl⟩:=h
   obtain ⟨d,hd,_,htag⟩:=ht.und
   have:d=.string:=by rw[hg] at htag;cases d<;>simp_all [xJ]
   subst this
   simp only[Cv] at hu;subst hu
   have hlt:n.toNat<s.size:=by omega
   refine ⟨.int .u8 (sbyte s n.toNat),?_,rfl⟩
   unfold Instr.index
   rw[wc,show (asIntOf (.int k n)).run P w=.ok (k,n) w from rfl]
   simp only
   rw[wc,wm hd]
   simp only[hC.1,if_true,sbyte]
   rw[getElem?_pos s n.toNat hlt];rfl
  ·cases h
 ·rename_i l
  split at h
  ·rename_i hg
   simp only[Bool.and_eq_true,beq_iff_eq,Bool.not_eq_true'] at hg
   obtain ⟨⟨⟨ha,he⟩,hag⟩,hal⟩:=hg
   split at h
   ·rename_i k' xs hxs
    simp only[Option.some.injEq,Prod.mk.injEq] at h;obtain ⟨rfl,rfl⟩:=h
    obtain ⟨hund,hsz,hagg⟩:=ht.arr ha
    obtain ⟨vs,rfl,hl⟩:=hu
    obtain ⟨g1,g2⟩:=Km hxs hl
    obtain ⟨j,hj,hjs⟩:=zW hsz
    refine ⟨.int k' (xs.getD n.toNat 0),?_,rfl⟩
    unfold Instr.index
    rw[wc,show (asIntOf (.int k n)).run P w=.ok (k,n) w from rfl]
    simp only
    rw[wc,wm hund]
    simp only[hal,hC,and_self,if_true]
    rw[wc,wZ hj,hjs,he]
    simp only[Nat.mul_one]
    exact Wq hsz hagg vs _ (by rw[hag];exact g2 _ (by omega)) w
   ·split at h
    ·rename_i y hy
     simp only[Option.some.injEq,Prod.mk.injEq] at h;obtain ⟨rfl,rfl⟩:=h
     obtain ⟨hund,hsz,hagg⟩:=ht.arr ha
     obtain ⟨vs,rfl,hl⟩:=hu
     obtain ⟨v,hv,hc⟩:=CvL.get hl _ _ hy
     obtain ⟨j,hj,hjs⟩:=zW hsz
     refine ⟨v,?_,hc⟩
     unfold Instr.index
     rw[wc,show (asIntOf (.int k n)).run P w=.ok (k,n) w from rfl]
     simp only
     rw[wc,wm hund]
     simp only[hC,and_self,if_true]
     rw[wc,wZ hj,hjs,he]
     simp only[Nat.mul_one]
     exact Wq hsz hagg vs _ (by rw[hag];exact hv) w
    ·cases h
  ·split at h
   ·rename_i hg
    simp only[Bool.and_eq_true,beq_iff_eq] at hg
    obtain ⟨⟨ha,hag⟩,hal⟩:=hg
    split at h
    ·rename_i k' xs hxs
     simp only[Option.some.injEq,Prod.mk.injEq] at h;obtain ⟨rfl,rfl⟩:=h
     obtain ⟨hund,hsz,hagg⟩:=ht.arr ha
     obtain ⟨vs,rfl,hl⟩:=hu
     obtain ⟨g1,g2⟩:=Km hxs hl
     obtain ⟨j,hj,hjs⟩:=zW hsz
     obtain ⟨e,he,hea⟩:=XN hagg
     have hvl:=CvL.length hl
     have hle:(n.toNat+1)*i.esz<=i.alen*i.esz:=Nat.mul_le_mul_right _ (by omega)
     rw[Nat.add_mul,Nat.one_mul] at hle
     refine ⟨.agg (vs.toArray.extract (n.toNat*i.esz) (n.toNat*i.esz+i.esz)),?_,?_⟩
     ·unfold Instr.index
      rw[wc,show (asIntOf (.int k n)).run P w=.ok (k,n) w from rfl]
      simp only
      rw[wc,wm hund]
      simp only[hC,and_self,if_true]
      rw[wc,wZ hj,hjs]
      exact Kg he (by rw[hea,hag]) hj hjs w
     ·have hlen:((vs.drop (n.toNat*i.esz)).take i.esz).length=i.esz:=by rw[List.length_take,List.length_drop];omega
      refine ⟨(vs.drop (n.toNat*i.esz)).take i.esz,?_,?_⟩
      ·congr 1
       apply Array.ext'
       simp[List.drop_take]
      ·have:=Qk (ρ:=ρ) (m:=m) (k:=k') (fun j=>xs.getD j 0) ((vs.drop (n.toNat*i.esz)).take i.esz) (n.toNat*i.esz) (fun j hj=>by
        rw[hlen] at hj
        rw[List.getElem?_take,if_pos hj,List.getElem?_drop]
        exact g2 _ (by omega))
       rw[hlen] at this;exact this
    ·cases h
   ·cases h
 ·cases h
end
section

theorem kU {P:Program} {ty:Array TypeId} {T:Nat} (hty:ty[0]? = some T) {e:TypeId} (hd:P.underlying T=some (.slice e)) (t:TypeId) (a:Option Addr) (n c:Nat) (w:World) :
  (Builtin.len_ ty t #[.slice a n c]).run P w=.ok (.int .i64 n) w:=by
 unfold Builtin.len_
 simp only[hty,List.getElem?_toArray,List.getElem?_cons_zero]
 rw[wc,wm hd];rfl
theorem Jl {P:Program} {ty:Array TypeId} {T:Nat} (hty:ty[0]? = some T) (hd:P.underlying T=some .string) (t:TypeId) (s:ByteArray) (w:World) :
  (Builtin.len_ ty t #[.string s]).run P w=.ok (.int .i64 s.size) w:=by
 unfold Builtin.len_
 simp only[hty,List.getElem?_toArray,List.getElem?_cons_zero]
 rw[wc,wm hd];rfl
theorem YP {P:Program} {ty:Array TypeId} {T:Nat} (hty:ty[0]? = some T) {n:Nat} {e:TypeId} (hd:P.underlying T=some (.array n e)) (t:TypeId) (u:Value) (w:World) :
  (Builtin.len_ ty t #[u]).run P w=.ok (.int .i64 n) w:=by
 unfold Builtin.len_
 simp only[hty,List.getElem?_toArray,List.getElem?_cons_zero]
 rw[wc,wm hd];rfl

theorem Gm {P:Program} {T:Nat} {i:TI} (ht:TOK P T i) {L:List (Nat×Option MObj)} {x r:MV} (h:Gg i L x=some r) {ρ:Nat->Hd} {m:Mem} {w:World}
  (hO:∀k o,ww L k=some o->osat ρ m w k o) {u:Value} (hu:Cv ρ m x u) (ty:Array TypeId) (hty:ty[0]? = some T) (t:TypeId):∃z,(Builtin.len_ ty t #[u]).run P w=.ok z w/\Cv ρ m r z:=by
 unfold Gg at h
 split at h
 ·rename_i hslc
  obtain ⟨hund,hsz⟩:=ht.slc hslc
  split at h
  ·simp only[Option.some.injEq] at h;subst h
   obtain ⟨v,hv,hs⟩:=hu
   simp only[List.cons.injEq,and_true] at hv;subst hv
   rcases hs with ⟨_,rfl,rfl⟩|⟨b,off,cap,cells,T',fr,rfl,_⟩
   ·exact ⟨_,kU hty hund t _ _ _ w,rfl⟩
   ·exact ⟨_,kU hty hund t _ _ _ w,rfl⟩
  ·simp only[Option.some.injEq] at h;subst h
   simp only[Cv] at hu;subst hu
   exact ⟨_,kU hty hund t _ _ _ w,rfl⟩
  ·rename_i key
   split at h
   ·rename_i k xs hk
    simp only[Option.some.injEq] at h;subst h
    simp only[Cv] at hu;subst hu
    obtain ⟨g0,g1,g2⟩:=hO _ _ hk
    rcases g2 with ⟨hn,rfl⟩|⟨hn,_⟩
    ·unfold Hd.hdr;rw[hn];exact ⟨_,kU hty hund t _ _ _ w,rfl⟩
    ·unfold Hd.hdr;rw[hn,g0];exact ⟨_,kU hty hund t _ _ _ w,rfl⟩
   ·rename_i e k xs hk
    simp only[Option.some.injEq] at h;subst h
    simp only[Cv] at hu;subst hu
    obtain ⟨g0,g1,g2⟩:=hO _ _ hk
    rcases g2 with ⟨hn,rfl⟩|⟨hn,_⟩
    ·unfold Hd.hdr;rw[hn];exact ⟨_,kU hty hund t _ _ _ w,rfl⟩
    ·unfold Hd.hdr;rw[hn,g0];exact ⟨_,kU hty hund t _ _ _ w,rfl⟩
   ·rename_i s cs hk
    simp only[Option.some.injEq] at h;subst h
    simp only[Cv] at hu;subst hu
    obtain ⟨g0,⟨g1,g2⟩,hn,_⟩:=hO _ _ hk
    rw[show cs.length/s=(ρ key).len by rw[<-g0];exact Nat.mul_div_cancel _ (by omega)]
    unfold Hd.hdr;rw[hn];exact ⟨_,kU hty hund t _ _ _ w,rfl⟩
   ·rename_i own e xss hh hk
    simp only[Option.some.injEq] at h;subst h
    simp only[Cv] at hu;subst hu
    obtain ⟨g0,g1,g2⟩:=hO _ _ hk
    rcases g2 with ⟨hn,rfl,_⟩|⟨hn,_⟩
    ·unfold Hd.hdr;rw[hn];exact ⟨_,kU hty hund t _ _ _ w,rfl⟩
    ·unfold Hd.hdr;rw[hn,g0];exact ⟨_,kU hty hund t _ _ _ w,rfl⟩
   ·cases h
  ·simp only[Option.some.injEq] at h;subst h
   simp only[Cv] at hu;subst hu
   exact ⟨_,kU hty hund t _ _ _ w,rfl⟩
  ·simp only[Option.some.injEq] at h;subst h
   simp only[Cv] at hu;subst hu
   exact ⟨_,kU hty hund t _ _ _ w,rfl⟩
  ·cases h
 ·split at h
  ·rename_i hg
   simp only[beq_iff_eq] at hg
   obtain ⟨d,hd,_,htag⟩:=ht.und
   have:d=.string:=by rw[hg] at htag;cases d<;>simp_all [xJ]
   subst this
   split at h
   ·simp only[Option.some.injEq] at h;subst h
    simp only[Cv] at hu;subst hu
    exact ⟨_,Jl hty hd t _ w,rfl⟩
   ·cases h
  ·split at h
   ·rename_i harr
    simp only[Option.some.injEq] at h;subst h
    exact ⟨_,YP hty (ht.arr harr).1 t u w,rfl⟩
   ·cases h

theorem Zk {P:Program} {ρ:Nat->Hd} {m:Mem} (w:World):∀{l:List MV} {x r:MV} {u:Value} {vs:List Value},vN x l=some r->Cv ρ m x u->CvL ρ m l vs->∃z,(vs.foldlM Builtin.min2 u).run P w=.ok z w/\Cv ρ m r z
 | [],x,r,u,vs,h,hu,hv=>by
  simp only[CvL] at hv;subst hv
  cases x<;>simp only[vN,Option.some.injEq] at h<;>subst h<;>exact ⟨u,rfl,hu⟩
 | y::l,x,r,u,vs,h,hu,hv=>by
  unfold vN at h
  split at h
  ·rename_i heq;cases heq
  ·rename_i k a k' b l' heq
   simp only[List.cons.injEq] at heq;obtain ⟨rfl,rfl⟩:=heq
   obtain ⟨v,us,rfl,h1,h2⟩:=hv
   simp only[Cv] at hu h1;subst hu h1
   rw[List.foldlM_cons,wc,show (Builtin.min2 (.int k a) (.int k' b)).run P w=.ok (.int k (imin a b)) w from rfl]
   exact Zk w h rfl h2
  ·cases h
theorem Zv {P:Program} {ρ:Nat->Hd} {m:Mem} (w:World):∀{l:List MV} {x r:MV} {u:Value} {vs:List Value},vI x l=some r->Cv ρ m x u->CvL ρ m l vs->∃z,(vs.foldlM Builtin.max2 u).run P w=.ok z w/\Cv ρ m r z
 | [],x,r,u,vs,h,hu,hv=>by
  simp only[CvL] at hv;subst hv
  cases x<;>simp only[vI,Option.some.injEq] at h<;>subst h<;>exact ⟨u,rfl,hu⟩
 | y::l,x,r,u,vs,h,hu,hv=>by
  unfold vI at h
  split at h
  ·rename_i heq;cases heq
  ·rename_i k a k' b l' heq
   simp only[List.cons.injEq] at heq;obtain ⟨rfl,rfl⟩:=heq
   obtain ⟨v,us,rfl,h1,h2⟩:=hv
   simp only[Cv] at hu h1;subst hu h1
   rw[List.foldlM_cons,wc,show (Builtin.max2 (.int k a) (.int k' b)).run P w=.ok (.int k (imax a b)) w from rfl]
   exact Zv w h rfl h2
  ·cases h
end
section

theorem xN {ρ:Nat->Hd} {m:Mem} {x:MV} {v:Value} (hs:solid x=true) (h:Cv ρ m x v):CvL ρ m (mvcells x) v.cells.toList:=by
 have triv:∀(y:MV),v.cells=#[v]->Cv ρ m y v->CvL ρ m [y] v.cells.toList:=fun y h1 h2=>by rw[h1];exact ⟨v,[],rfl,h2,rfl⟩
 cases x with
 | agg l=>obtain ⟨vs,rfl,hl⟩:=h;simpa [Value.cells,mvcells] using hl
 | cnd t y=>simp[solid] at hs
 | raw u=>simp[solid] at hs
 | tup l=>simp[solid] at hs
 | im k y =>
  cases k with
  | slice e =>
   obtain ⟨z,hz,h2⟩:=h
   simp only[List.cons.injEq,and_true] at hz
   rcases h2 with ⟨a,h3,h4⟩|⟨b,off,cap,cells,T',fr,h3,h5⟩
   ·refine triv _ (by rw[hz,h3];rfl) ⟨z,by rw[hz],.inl ⟨a,h3,h4⟩⟩
   ·exact triv _ (by rw[hz,h3];rfl) ⟨z,by rw[hz],.inr ⟨b,off,cap,cells,T',fr,h3,h5⟩⟩
  | _=>simp[solid] at hs
 | int k y=>exact triv _ (by simp only[Cv] at h;rw[h];rfl) h
 | bool y=>exact triv _ (by simp only[Cv] at h;rw[h];rfl) h
 | str y=>exact triv _ (by simp only[Cv] at h;rw[h];rfl) h
 | nilp=>exact triv _ (by simp only[Cv] at h;rw[h];rfl) h
 | nils=>exact triv _ (by simp only[Cv] at h;rw[h];rfl) h
 | nilf=>exact triv _ (by simp only[Cv] at h;rw[h];rfl) h
 | nili=>exact triv _ (by simp only[Cv] at h;rw[h];rfl) h
 | nilm=>exact triv _ (by simp only[Cv] at h;rw[h];rfl) h
 | p k o=>exact triv _ (by simp only[Cv] at h;rw[h];rfl) h
 | hd k o=>exact triv _ (by simp only[Cv] at h;rw[h];rfl) h
 | sv k o=>exact triv _ (by simp only[Cv] at h;rw[h];rfl) h
 | sp k o=>exact triv _ (by simp only[Cv] at h;rw[h];rfl) h
 | pf k o j=>exact triv _ (by simp only[Cv] at h;rw[h];rfl) h
 | pe k j o=>exact triv _ (by simp only[Cv] at h;rw[h];rfl) h
 | sl k=>exact triv _ (by simp only[Cv] at h;rw[h];unfold Hd.hdr;split<;>rfl) h
 | mp k=>exact triv _ (by simp only[Cv] at h;rw[h];rfl) h
 | pim k y=>exact triv _ (by obtain ⟨b,off,cells,T',fr,h1,_⟩:=h;rw[h1];rfl) h
 | fn f l=>exact triv _ (by obtain ⟨vs,h1,_⟩:=h;rw[h1];rfl) h
 | ifc t y=>exact triv _ (by obtain ⟨z,h1,_⟩:=h;rw[h1];rfl) h
 | bm t y=>exact triv _ (by obtain ⟨z,h1,_⟩:=h;rw[h1];rfl) h

theorem ZQ:∀(l:List Value) (cs:Array Value) (off j:Nat),off+j+l.length<=cs.size →
  ((l.zipIdx j).foldl (fun cs (c,j)=>cs.setIfInBounds (off+j) c) cs).toList=cs.toList.take (off+j)++(l++cs.toList.drop (off+j+l.length))
 | [],cs,off,j,h=>by simp
 | c::l,cs,off,j,h=>by
  simp only[List.length_cons] at h
  rw[List.zipIdx_cons,List.foldl_cons,ZQ l _ off (j+1) (by simp only[Array.size_setIfInBounds];omega)]
  have hlt:off+j<cs.toList.length:=by simp;omega
  simp only[Array.toList_setIfInBounds]
  have e1:(cs.toList.set (off+j) c).take (off+(j+1))=cs.toList.take (off+j)++[c]:=by
   rw[show off+(j+1)=off+j+1 by omega,List.take_succ_eq_append_getElem (by simpa using hlt),List.getElem_set_self,List.take_set_of_le (Nat.le_refl _)]
  have e2:(cs.toList.set (off+j) c).drop (off+(j+1)+l.length)=cs.toList.drop (off+j+(l.length+1)):=by
   rw[List.drop_set_of_lt (by omega)];congr 1;omega
  rw[e1,e2,List.append_assoc];rfl

theorem Qy {ρ:Nat->Hd} {m:Mem} {pl:Nat->Option (Nat×Nat)}:∀{parts:List (Nat×MV)} {cs r:List MV},Zf pl cs parts=some r->∀{vs:List Value} {ps:List (Nat×Value)},CvL ρ m cs vs →
  ps.length=parts.length->(∀(i:Nat) q v,parts[i]? = some q->ps[i]? = some v->q.1=v.1/\Cv ρ m q.2 v.2)->∃us,Instr.fill pl vs.toArray ps=some us.toArray/\CvL ρ m r us
 | [],cs,r,h,vs,ps,hc,hl,_=>by
  simp only[Zf,Option.some.injEq] at h;subst h
  have:ps=[]:=List.eq_nil_of_length_eq_zero hl
  subst this
  exact ⟨vs,rfl,hc⟩
 | (i,x)::rest,cs,r,h,vs,ps,hc,hl,hp=>by
  cases ps with
  | nil=>simp at hl
  | cons q ps =>
   obtain ⟨i',v⟩:=q
   obtain ⟨hi,hv⟩:=hp 0 (i,x) (i',v) rfl rfl
   simp only at hi hv;subst hi
   unfold Zf at h
   split at h
   ·cases h
   ·rename_i off n hpl
    split at h
    ·rename_i hg
     simp only[Bool.and_eq_true,beq_iff_eq,decide_eq_true_eq] at hg
     obtain ⟨⟨hs,hn⟩,hb⟩:=hg
     have hcv:=xN hs hv
     have hvl:=CvL.length hcv
     have hcl:=CvL.length hc
     rw[hn] at hvl
     have hsz:v.cells.size=n:=by simpa using hvl
     unfold Instr.fill
     simp only[hpl]
     rw[if_neg (by simp[hsz,hcl,hb])]
     have hfold:(v.cells.zipIdx.foldl (fun cs (x:Value×Nat)=>cs.setIfInBounds (off+x.2) x.1) vs.toArray)=(vs.take off++(v.cells.toList++vs.drop (off+n))).toArray:=by
      apply Array.ext'
      rw[<-Array.foldl_toList,Array.toList_zipIdx]
      have:=ZQ v.cells.toList vs.toArray off 0 (by simp[hsz];omega)
      simp only[Nat.add_zero] at this
      rw[show v.cells.toList.length=n by simpa using hsz] at this
      exact this
     have:=Qy h (vs:=vs.take off++(v.cells.toList++vs.drop (off+n))) (ps:=ps) (CvL.append (CvL.take off hc) (CvL.append hcv (CvL.drop _ hc))) (by simpa using hl) (fun j q w hq hw=>hp (j+1) q w (by simpa using hq) (by simpa using hw))
     obtain ⟨us,h1,h2⟩:=this
     exact ⟨us,by rw[<-h1];exact congrArg (fun c=>Instr.fill pl c ps) hfold,h2⟩
    ·cases h

theorem vJ {ρ:Nat->Hd} {m:Mem} {A:List (Nat×MV)} {a:Act} (h:v9 ρ m A a) {g:Option Bool} (hg:GOK g):∀{l:List (Nat×Operand)} {ps:List (Nat×MV)} {C:Prop},yP A g l=some (ps,C)->C →
  (l.map fun x=>(x.1,a.eval x.2)).length=ps.length/\∀(i:Nat) q v,ps[i]? = some q->(l.map fun x=>(x.1,a.eval x.2))[i]? = some v->q.1=v.1/\Cv ρ m q.2 v.2
 | [],ps,C,hx,hC=>by
  simp only[yP,Option.some.injEq,Prod.mk.injEq] at hx;obtain ⟨rfl,rfl⟩:=hx
  exact ⟨rfl,fun i q v hq=>by simp at hq⟩
 | (j,x)::l,ps,C,hx,hC=>by
  unfold yP at hx
  split at hx
  ·rename_i y D zs E h1 h2
   simp only[Option.some.injEq,Prod.mk.injEq] at hx
   obtain ⟨rfl,rfl⟩:=hx
   obtain ⟨g1,g2⟩:=vJ h hg h2 hC.2
   refine ⟨by simpa using g1,fun i q v hq hv=>?_⟩
   cases i with
   | zero=>simp at hq hv;subst hq hv;exact ⟨rfl,zh h hg h1 hC.1⟩
   | succ i=>exact g2 i q v (by simpa using hq) (by simpa using hv)
  ·cases hx

theorem KX {P:Program} {fs:Array Field} (w:World) (hf:∀g∈fs.toList,∃j,P.info? g.type=some j) :
  (fs.mapM (fun f=>do pure (f.offset,<-sizeOf f.type):Field->Sem (Nat×Nat))).run P w=.ok (fs.map fun f=>(f.offset,((P.info? f.type).map (·.size)).getD 0)) w:=by
 rw[Array.mapM_eq_mapM_toList]
 have key:∀(l:List Field),(∀g∈l,∃j,P.info? g.type=some j)->(l.mapM (fun f=>do pure (f.offset,<-sizeOf f.type):Field->Sem (Nat×Nat))).run P w=.ok (l.map fun f=>(f.offset,((P.info? f.type).map (·.size)).getD 0)) w:=by
  intro l
  induction l with
  | nil=>intro _;rfl
  | cons g l ih =>
   intro h
   obtain ⟨j,hj⟩:=h g (by simp)
   rw[List.mapM_cons,wc,wc,wZ hj]
   simp only[zZ]
   rw[wc,ih (fun g' h'=>h g' (by simp[h']))]
   simp[hj]
 show ((_:Sem (List (Nat×Nat))) >>= fun l=>pure (List.toArray l)).run P w=_
 rw[wc,key _ hf]
 simp only[zZ,Result.ok.injEq,and_true]
 apply Array.ext';simp

theorem Y3 {P:Program} {T:Nat} {i:TI} (ht:TOK P T i) {ps:List (Nat×MV)} {r:MV} (h:QF i ps=some r) {ρ:Nat->Hd} {m:Mem} {vs:List (Nat×Value)} (hl:vs.length=ps.length)
  (hp:∀(j:Nat) q v,ps[j]? = some q->vs[j]? = some v->q.1=v.1/\Cv ρ m q.2 v.2) (w:World):∃z,(Instr.build T vs.toArray).run P w=.ok z w/\Cv ρ m r z:=by
 obtain ⟨j,z,hj,_,_,hz,hzc⟩:=ht.info
 have hzv:=qb hj hz w
 unfold QF at h
 split at h
 ·rename_i harr
  obtain ⟨hund,hsz,_⟩:=ht.arr harr
  obtain ⟨j',hj',hjs⟩:=zW hsz
  simp only[Option.map_eq_some_iff] at h
  obtain ⟨cs,hcs,rfl⟩:=h
  obtain ⟨us,h1,h2⟩:=Qy hcs (hzc ρ m) hl hp
  refine ⟨.agg us.toArray,?_,us,rfl,h2⟩
  unfold Instr.build
  rw[wc,hzv];simp only
  rw[wc,wm hund];simp only
  rw[wc,wZ hj',hjs];simp only
  rw[show z.cells=z.cells.toList.toArray by simp,h1];rfl
 ·split at h
  ·cases h
  rename_i harr hf
  simp only[Option.map_eq_some_iff] at h
  obtain ⟨cs,hcs,rfl⟩:=h
  obtain ⟨q,hq⟩:∃q,i.fields[0]? = some q:=by
   cases hh:i.fields with
   | nil=>rw[hh] at hf;simp at hf
   | cons q l=>exact ⟨q,rfl⟩
  obtain ⟨fs,g,hund,_⟩:=ht.fld 0 q hq
  have hlen:=ht.flen fs hund
  obtain ⟨us,h1,h2⟩:=Qy hcs (hzc ρ m) hl hp
  refine ⟨.agg us.toArray,?_,us,rfl,h2⟩
  have hall:∀g∈fs.toList,∃j,P.info? g.type=some j:=by
   intro g hg
   obtain ⟨k,hk,rfl⟩:=List.getElem_of_mem hg
   have hk':k<i.fields.length:=by rw[<-hlen];simpa using hk
   obtain ⟨fs',g',hu',hg',_,hs',_⟩:=ht.fld k i.fields[k] (List.getElem?_eq_getElem hk')
   rw[hund] at hu';cases hu'
   obtain ⟨j,hj,_⟩:=zW hs'
   have:g'=fs.toList[k]:=by
    have h3:fs.toList[k]? = some g':=by simpa using hg'
    rw[List.getElem?_eq_getElem hk] at h3;exact (Option.some.inj h3).symm
   rw[this] at hj;exact ⟨j,hj⟩
  have hpl:(fun (k:Nat)=>(fs.map fun f=>(f.offset,((P.info? f.type).map (·.size)).getD 0))[k]?)=fun (k:Nat)=>(i.fields[k]?).map fun (q:Nat×Nat×Bool)=>(q.1,q.2.1):=by
   funext k
   cases hk:i.fields[k]? with
   | none =>
    have:fs.size<=k:=by rw[hlen];exact List.getElem?_eq_none_iff.1 hk
    simp[this]
   | some q =>
    obtain ⟨fs',g',hu',hg',ho,hs',_⟩:=ht.fld k q hk
    rw[hund] at hu';cases hu'
    obtain ⟨j,hj,hjs⟩:=zW hs'
    simp[hg',hj,hjs,ho]
  unfold Instr.build
  rw[wc,hzv];simp only
  rw[wc,wm hund];simp only
  rw[wc,KX w hall];simp only
  rw[hpl,show z.cells=z.cells.toList.toArray by simp,h1];rfl
end
section

theorem Qt {P:Program} {k:IntKind} {n:Int} {y:Nat} (h0:0<=n) (h1:n<=(y:Int)) (c:BoundsCode) (w:World):(Instr.sliceBound (.int k n) y c).run P w=.ok n.toNat w:=by
 unfold Instr.sliceBound
 rw[wc,show (asIntOf (.int k n)).run P w=.ok (k,n) w from rfl]
 simp only[h0,h1,and_self,if_true];rfl

def Ks:Option Int->Option Value->Prop
  | none,none=>True
  | some n,some v=>∃k,v=.int k n
  | _,_=>False

theorem jF {P:Program} {len cap:Nat} {lo hi:Option Int} {vl vh:Option Value} (hl:Ks lo vl) (hh:Ks hi vh) (h0:0<=lo.getD 0) (h1:lo.getD 0<=hi.getD (len:Int)) (h2:hi.getD (len:Int)<=(len:Int)) (hc:len<=cap) (b:Bool) (w:World) :
  (Instr.sliceBounds b len cap vl vh none).run P w=.ok ((lo.getD 0).toNat,(hi.getD (len:Int)).toNat,cap) w:=by
 have bh:∀k n c,hi=some n->(Instr.sliceBound (.int k n) cap c).run P w=.ok (hi.getD (len:Int)).toNat w:=by
  intro k n c e;subst e
  simp only[Option.getD_some] at h1 h2 ⊢
  exact Qt (by omega) (by omega) _ w
 have bl:∀k n c,lo=some n->(Instr.sliceBound (.int k n) (hi.getD (len:Int)).toNat c).run P w=.ok (lo.getD 0).toNat w:=by
  intro k n c e;subst e
  simp only[Option.getD_some] at h0 h1 ⊢
  exact Qt h0 (by omega) _ w
 unfold Instr.sliceBounds
 simp only[Option.isSome_none,Bool.false_eq_true,if_false]
 rw[wc,zZ];simp only
 cases hi with
 | none=>cases vh with
  | some v=>exact hh.elim
  | none =>
   simp only
   rw[wc,zZ];simp only
   cases lo with
   | none=>cases vl with
    | some v=>exact hl.elim
    | none=>rfl
   | some n=>cases vl with
    | none=>exact hl.elim
    | some v =>
     obtain ⟨k,rfl⟩:=hl
     simp only
     have:=bl k n .sliceB rfl
     simp only[Option.getD_none,Int.toNat_natCast] at this
     rw[wc,this];simp
 | some n'=>cases vh with
  | none=>exact hh.elim
  | some v' =>
   obtain ⟨k',rfl⟩:=hh
   simp only
   rw[wc,bh k' n' _ rfl];simp only
   cases lo with
   | none=>cases vl with
    | some v=>exact hl.elim
    | none=>rfl
   | some n=>cases vl with
    | none=>exact hl.elim
    | some v =>
     obtain ⟨k,rfl⟩:=hl
     simp only
     rw[wc,bl k n _ rfl];simp

theorem XU {α:Type} {m:Mem} {sz:Nat} {R:α->List Value->Prop} {l:List α} {b off cap:Nat} {cells:Array Value} {T:TypeId} {fr:Nat×Nat}
  (h2:l.length<=cap) (h3:m b=some (.cells cells T fr)) (h4:off+l.length*sz<=cells.size) (h5:∀(i:Nat) (h:i<l.length),R l[i] ((cells.toList.drop (off+i*sz)).take sz)) (lo hi:Nat) (hlo:lo<=hi) (hhi:hi<=l.length) :
  SlR m sz R ((l.take hi).drop lo) (.slice (if cap=lo then some ⟨b,off,none⟩ else some ((⟨b,off,none⟩:Addr).add (lo*sz))) (hi-lo) (cap-lo)):=by
 have hlen:((l.take hi).drop lo).length=hi-lo:=by rw[List.length_drop,List.length_take];omega
 right
 split
 ·rename_i hc
  refine ⟨b,off,cap-lo,cells,T,fr,by rw[hlen],by omega,h3,?_,fun i hi'=>by omega⟩
  rw[hlen,show hi-lo=0 by omega];omega
 ·refine ⟨b,off+lo*sz,cap-lo,cells,T,fr,by rw[hlen,kx],by omega,h3,?_,fun i hi'=>?_⟩
  ·have:hi*sz<=l.length*sz:=Nat.mul_le_mul_right _ hhi
   have e:(hi-lo)*sz=hi*sz-lo*sz:=Nat.sub_mul _ _ _
   have:lo*sz<=hi*sz:=Nat.mul_le_mul_right _ hlo
   rw[hlen,e];omega
  ·rw[hlen] at hi'
   have hx:=h5 (lo+i) (by omega)
   have e:off+lo*sz+i*sz=off+(lo+i)*sz:=by rw[Nat.add_mul];omega
   rw[e]
   have:((l.take hi).drop lo)[i]=l[lo+i]:=by simp
   rw[this];exact hx

theorem ZF {m:Mem} {e:Kd}:∀(n:Nat) (k:Kd) (x:k.T) (l:List e.T) (cs:List Value),unpairs e n k x=some l->k.R m x cs->l.length=n/\cs.length=n*e.n/\∀(i:Nat) (h:i<l.length),e.R m l[i] ((cs.drop (i*e.n)).take e.n)
 | 0,_,_,_,_,h,_=>by simp[unpairs] at h
 | 1,k,x,l,cs,h,hr=>by
  unfold unpairs at h
  split at h
  ·rename_i hk
   subst hk
   simp only[Option.some.injEq] at h;subst h
   have hl:=Kd.R.len _ _ _ hr
   refine ⟨rfl,by rw[hl];omega,fun i hi=>?_⟩
   have:i=0:=by simpa using hi
   subst this
   simp only[List.getElem_cons_zero,Nat.zero_mul,List.drop_zero]
   rw[List.take_of_length_le (by omega)];exact hr
  ·cases h
 | n+2,.pair a b,x,l,cs,h,hr=>by
  unfold unpairs at h
  split at h
  ·rename_i hk
   subst hk
   split at h
   ·rename_i l' hl'
    simp only[Option.some.injEq] at h;subst h
    obtain ⟨c1,c2,rfl,r1,r2⟩:=hr
    have g0:=Kd.R.len _ _ _ r1
    obtain ⟨g1,g2,g3⟩:=ZF (n+1) b x.2 l' c2 hl' r2
    refine ⟨by simp[g1],by rw[List.length_append,g0,g2,show n+2=(n+1)+1 by omega,Nat.add_mul (n+1) 1];omega,fun i hi=>?_⟩
    cases i with
    | zero =>
     simp only[List.getElem_cons_zero,Nat.zero_mul,List.drop_zero]
     rw[List.take_append_of_le_length (by omega),List.take_of_length_le (by omega)];exact r1
    | succ i =>
     have:=g3 i (by simpa using hi)
     simp only[List.getElem_cons_succ]
     rw[List.drop_append,List.drop_of_length_le (by rw[g0,Nat.add_mul,Nat.one_mul];omega),List.nil_append,g0,show (i+1)*a.n-a.n=i*a.n by rw[Nat.add_mul,Nat.one_mul];omega]
     exact this
   ·cases h
  ·cases h
 | n+2,.int _,_,_,_,h,_=>by simp[unpairs] at h
 | n+2,.bool,_,_,_,h,_=>by simp[unpairs] at h
 | n+2,.str,_,_,_,h,_=>by simp[unpairs] at h
 | n+2,.slice _,_,_,_,h,_=>by simp[unpairs] at h
 | n+2,.unit,_,_,_,h,_=>by simp[unpairs] at h
 | n+2,.ptr,_,_,_,h,_=>by simp[unpairs] at h
 | n+2,.hdr,_,_,_,h,_=>by simp[unpairs] at h

theorem uR {q:Nat} (h:q<128):rstr (q:Int)=Utf8.encode (q:Int):=by
 have:∀x:Fin 128,rstr (x.1:Int)=Utf8.encode (x.1:Int):=by decide
 exact this ⟨q,h⟩
theorem VG {P:Program} {tab:Nat->Option TI} (hT:∀t i,tab t=some i->TOK P t i) {op:BinOp} {T:TypeId} {x y r:MV} {C:Prop} {L:List (Nat×Option MObj)}
  (h:slnil tab L op T x y=some (r,C)) (hC:C) {ρ:Nat->Hd} {m:Mem} {u v:Value} (hu:Cv ρ m x u) (hv:Cv ρ m y v) (ox oy:Operand) (w:World) (hO:∀k o,ww L k=some o->osat ρ m w k o) :
  ∃z,(do eqGuard op T ox oy u v;binOp op T u v:Sem Value).run P w=.ok z w/\Cv ρ m r z:=by
 unfold slnil at h
 split at h
 ·rename_i key
  split at h
  ·rename_i e i k xs he hi hk
   split at h
   ·rename_i hg
    simp only[Option.some.injEq,Prod.mk.injEq] at h;obtain ⟨rfl,rfl⟩:=h
    obtain ⟨g0,g1,g2⟩:=hO _ _ hk
    simp only[Cv] at hu hv;subst hv
    rcases g2 with ⟨_,rfl⟩|⟨hn,_⟩
    ·exact absurd rfl hC
    have hu':u=.slice (some ⟨(ρ key).blk,0,none⟩) (ρ key).len (ρ key).cap:=by rw[hu];unfold Hd.hdr;rw[hn];rfl
    subst hu'
    obtain ⟨d,hd,_,htag⟩:=(hT _ _ hi).und
    have hund:=fun w=>wm hd w
    simp only[beq_iff_eq] at hg;rw[hg] at htag
    obtain ⟨e1,rfl⟩:∃e,d=.slice e:=by cases d<;>simp_all [xJ]
    have hq:Ud P T (.slice (some ⟨(ρ key).blk,0,none⟩) (ρ key).len (ρ key).cap) (.slice none 0 0) false:=by
     refine xL (fun w=>?_) (fun op ox oy w=>?_) rfl rfl
     ·rw[xi,Op.equalIn,wc,hund];rfl
     ·cases op<;>rfl
    exact ⟨_,hq op e ox oy w he,by cases e<;>rfl⟩
   ·cases h
  ·cases h
 ·cases h

theorem Zh {P:Program} {r c:Nat} {w:World} (h:w.heap[r]? = some (.map #[] c)):(getObj r).run P w=.ok (.map #[] c) w:=by
 unfold getObj
 simp[Sem.run,h]
theorem Wf {P:Program} {K:TypeId} {ik:IntKind} (hk:P.underlying K=some (.int ik)) (b:Bool) (kn:IntKind) (x:Int) (w:World):(Instr.checkKey b 10000 K (.int kn x)).run P w=.ok () w:=by
 show (Instr.checkKey b (9999+1) K (.int kn x)).run P w=_
 unfold Instr.checkKey
 rw[wc,wm hk];rfl
theorem K7 {P:Program} {T K E:TypeId} {ik:IntKind} {j:TypeInfo} (hu:P.underlying T=some (.map K E)) (hk:P.underlying K=some (.int ik)) (hj:P.info? E=some j) (hz:j.zero=some (.string ⟨#[]⟩)) {r c:Nat} {w:World} (h:w.heap[r]? = some (.map #[] c)) (kn:IntKind) (x:Int) :
  (Instr.lookup T (.map (some r)) (.int kn x) true).run P w=.ok (.tuple #[.string ⟨#[]⟩,.bool false]) w:=by
 unfold Instr.lookup
 rw[wc,wm hu];simp only
 rw[wc,Zh h];simp only
 rw[wc,zZ];simp only
 rw[wc,Wf hk];simp only
 have hf:(Instr.findKey K (.int kn x) (#[]:Array MapEntry).toList).run P w=.ok none w:=by
  unfold Instr.findKey
  rw[wc,wm hk];rfl
 rw[wc,hf];simp only
 rw[wc,qb hj hz];simp only
 rw[wc,zZ];rfl
theorem Y0 {P:Program} {T:Nat} {i:TI} (ht:TOK P T i) {x r:MV} {lo hi:Option Int} {C:Prop} {L:List (Nat×Option MObj)} (h:Q3 i L x lo hi=some (r,C)) (hC:C) {ρ:Nat->Hd} {m:Mem} {u:Value} (hu:Cv ρ m x u)
  {vl vh:Option Value} (hl:Ks lo vl) (hh:Ks hi vh) (w:World) (hO:∀k o,ww L k=some o->osat ρ m w k o):∃z,(Instr.sliceAt T u vl vh none).run P w=.ok z w/\Cv ρ m r z:=by
 unfold Q3 at h
 split at h
 ·rename_i key
  split at h
  ·rename_i k xs hk
   split at h
   ·rename_i hg
    simp only[Bool.and_eq_true,beq_iff_eq] at hg
    obtain ⟨hslc,he⟩:=hg
    simp only[Option.some.injEq,Prod.mk.injEq] at h;obtain ⟨rfl,rfl⟩:=h
    simp only[Cv] at hu;subst hu
    obtain ⟨h0,h1⟩:=hC
    obtain ⟨g0,g1,g2⟩:=hO _ _ hk
    obtain ⟨hund,hesz⟩:=ht.slc hslc
    obtain ⟨j,hj,hjs⟩:=zW hesz
    rcases g2 with ⟨_,rfl⟩|⟨hn,hcap,_⟩
    ·simp at h1;omega
    refine ⟨.slice (some ⟨(ρ key).blk,(lo.getD 0).toNat*(ρ key).sz,none⟩) ((ρ key).len-(lo.getD 0).toNat) ((ρ key).cap-(lo.getD 0).toNat),?_,rfl⟩
    unfold Hd.hdr
    rw[hn,g0]
    simp only[Bool.false_eq_true,if_false]
    unfold Instr.sliceAt
    rw[wc,wm hund];simp only
    unfold Instr.slice
    rw[wc,wm hund];simp only
    rw[wc,jF hl hh h0 (by simp;omega) (by simp) hcap];simp only
    rw[wc,wZ hj,hjs]
    have e1:((none:Option Int).getD (xs.length:Int)).toNat=xs.length:=by simp
    have hlt:¬(ρ key).cap=(lo.getD 0).toNat:=by omega
    have ha:(⟨(ρ key).blk,0,none⟩:Addr).add ((lo.getD 0).toNat*i.esz)=⟨(ρ key).blk,0+(lo.getD 0).toNat*i.esz,none⟩:=kx (ρ key).blk 0 (lo.getD 0).toNat i.esz
    rw[e1,g1,he]
    simp only[Option.map_some,ha,Nat.zero_add,if_neg hlt]
    rfl
   ·cases h
  ·rename_i k xs q hk
   split at h
   ·rename_i hg
    simp only[Bool.and_eq_true,beq_iff_eq,Option.isNone_iff_eq_none] at hg
    obtain ⟨⟨hslc,he⟩,rfl⟩:=hg
    simp only[Option.some.injEq,Prod.mk.injEq] at h;obtain ⟨rfl,rfl⟩:=h
    simp only[Cv] at hu;subst hu
    obtain ⟨h0,h1,h3⟩:=hC
    obtain ⟨g0,g1,g2⟩:=hO _ _ hk
    obtain ⟨hund,hesz⟩:=ht.slc hslc
    obtain ⟨j,hj,hjs⟩:=zW hesz
    rcases g2 with ⟨_,rfl⟩|⟨hn,hcap,_⟩
    ·exact absurd rfl h3
    have hpos:0<xs.length:=List.length_pos_iff.2 h3
    refine ⟨.slice (some ⟨(ρ key).blk,0,none⟩) q.toNat (ρ key).cap,?_,rfl⟩
    unfold Hd.hdr
    rw[hn,g0]
    simp only[Bool.false_eq_true,if_false]
    unfold Instr.sliceAt
    rw[wc,wm hund];simp only
    unfold Instr.slice
    rw[wc,wm hund];simp only
    rw[wc,jF hl hh (Int.le_refl 0) (by simpa using h0) (by simpa using h1) hcap];simp only
    rw[wc,wZ hj,hjs]
    have e1:((some q:Option Int).getD (xs.length:Int)).toNat=q.toNat:=by simp
    have e0:((none:Option Int).getD 0).toNat=0:=rfl
    have hlt:¬(ρ key).cap=0:=by omega
    have ha:(⟨(ρ key).blk,0,none⟩:Addr).add (0*i.esz)=⟨(ρ key).blk,0+0*i.esz,none⟩:=kx (ρ key).blk 0 0 i.esz
    rw[e1,e0]
    simp only[Option.map_some,ha,Nat.zero_mul,Nat.zero_add,if_neg hlt,Nat.sub_zero]
    rfl
   ·cases h
  ·rename_i _ _ xs _ hk
   split at h
   ·rename_i hg
    simp only[Bool.and_eq_true,beq_iff_eq] at hg
    obtain ⟨hslc,he⟩:=hg
    simp only[Option.some.injEq,Prod.mk.injEq] at h;obtain ⟨rfl,rfl⟩:=h
    simp only[Cv] at hu;subst hu
    obtain ⟨h0,h1⟩:=hC
    obtain ⟨g0,g1,g2⟩:=hO _ _ hk
    obtain ⟨hund,hesz⟩:=ht.slc hslc
    obtain ⟨j,hj,hjs⟩:=zW hesz
    rcases g2 with ⟨_,rfl,_⟩|⟨hn,hcap,_⟩
    ·simp at h1;omega
    refine ⟨.slice (some ⟨(ρ key).blk,(lo.getD 0).toNat*(ρ key).sz,none⟩) ((ρ key).len-(lo.getD 0).toNat) ((ρ key).cap-(lo.getD 0).toNat),?_,rfl⟩
    unfold Hd.hdr
    rw[hn,g0]
    simp only[Bool.false_eq_true,if_false]
    unfold Instr.sliceAt
    rw[wc,wm hund];simp only
    unfold Instr.slice
    rw[wc,wm hund];simp only
    rw[wc,jF hl hh h0 (by simp;omega) (by simp) hcap];simp only
    rw[wc,wZ hj,hjs]
    have e1:((none:Option Int).getD (xs.length:Int)).toNat=xs.length:=by simp
    have hlt:¬(ρ key).cap=(lo.getD 0).toNat:=by omega
    have ha:(⟨(ρ key).blk,0,none⟩:Addr).add ((lo.getD 0).toNat*i.esz)=⟨(ρ key).blk,0+(lo.getD 0).toNat*i.esz,none⟩:=kx (ρ key).blk 0 (lo.getD 0).toNat i.esz
    rw[<-he] at ha
    rw[e1,g1,<-he]
    simp only[Option.map_some,ha,Nat.zero_add,if_neg hlt]
    rfl
   ·cases h
  ·rename_i _ _ xs _ q hk
   split at h
   ·rename_i hg
    simp only[Bool.and_eq_true,beq_iff_eq,Option.isNone_iff_eq_none] at hg
    obtain ⟨⟨hslc,he⟩,rfl⟩:=hg
    simp only[Option.some.injEq,Prod.mk.injEq] at h;obtain ⟨rfl,rfl⟩:=h
    simp only[Cv] at hu;subst hu
    obtain ⟨h0,h1,h3⟩:=hC
    obtain ⟨g0,g1,g2⟩:=hO _ _ hk
    obtain ⟨hund,hesz⟩:=ht.slc hslc
    obtain ⟨j,hj,hjs⟩:=zW hesz
    rcases g2 with ⟨_,rfl,_⟩|⟨hn,hcap,_⟩
    ·exact absurd rfl h3
    have hpos:0<xs.length:=List.length_pos_iff.2 h3
    refine ⟨.slice (some ⟨(ρ key).blk,0,none⟩) q.toNat (ρ key).cap,?_,rfl⟩
    unfold Hd.hdr
    rw[hn,g0]
    simp only[Bool.false_eq_true,if_false]
    unfold Instr.sliceAt
    rw[wc,wm hund];simp only
    unfold Instr.slice
    rw[wc,wm hund];simp only
    rw[wc,jF hl hh (Int.le_refl 0) (by simpa using h0) (by simpa using h1) hcap];simp only
    rw[wc,wZ hj,hjs]
    have e1:((some q:Option Int).getD (xs.length:Int)).toNat=q.toNat:=by simp
    have e0:((none:Option Int).getD 0).toNat=0:=rfl
    have hlt:¬(ρ key).cap=0:=by omega
    have ha:(⟨(ρ key).blk,0,none⟩:Addr).add (0*i.esz)=⟨(ρ key).blk,0+0*i.esz,none⟩:=kx (ρ key).blk 0 0 i.esz
    rw[e1,e0]
    simp only[Option.map_some,ha,Nat.zero_mul,Nat.zero_add,if_neg hlt,Nat.sub_zero]
    rfl
   ·cases h
  ·cases h
 ·rename_i key
  split at h
  ·rename_i k n xs hk
   split at h
   ·rename_i hg
    simp only[Bool.and_eq_true,beq_iff_eq] at hg
    obtain ⟨⟨harr,hn⟩,he⟩:=hg
    simp only[Option.some.injEq,Prod.mk.injEq] at h;obtain ⟨rfl,rfl⟩:=h
    simp only[Cv] at hu;subst hu
    obtain ⟨hund,hesz,_⟩:=ht.arr harr
    obtain ⟨j,hj,hjs⟩:=zW hesz
    refine ⟨.slice (some ⟨(ρ key).blk,0,none⟩) n n,?_,rfl⟩
    unfold Instr.sliceAt
    rw[wc,wm hund];simp only
    rw[wc,show (Instr.sureAddr (.pointer (some ⟨(ρ key).blk,0,none⟩))).run P w=.ok ⟨(ρ key).blk,0,none⟩ w from rfl];simp only
    rw[hn,wc,jF hl hh (len:=n) (Int.le_refl 0) (by simp) (by simp) (Nat.le_refl _)];simp only
    rw[wc,wZ hj,hjs]
    have ha:(⟨(ρ key).blk,0,none⟩:Addr).add (0*i.esz)=⟨(ρ key).blk,0+0*i.esz,none⟩:=kx (ρ key).blk 0 0 i.esz
    by_cases hz:n=0<;>simp[hz,ha,zZ]<;>rfl
   ·cases h
  ·cases h
 ·rename_i key c
  split at h
  ·rename_i k xs q hk
   split at h
   ·rename_i hg
    simp only[Bool.and_eq_true,beq_iff_eq] at hg
    obtain ⟨hslc,he⟩:=hg
    simp only[Option.some.injEq,Prod.mk.injEq] at h;obtain ⟨rfl,rfl⟩:=h
    simp only[Cv] at hu;subst hu
    obtain ⟨h0,h1,h2,h3⟩:=hC
    obtain ⟨g0,g1,g2⟩:=hO _ _ hk
    obtain ⟨hund,hesz⟩:=ht.slc hslc
    obtain ⟨j,hj,hjs⟩:=zW hesz
    rcases g2 with ⟨_,rfl⟩|⟨hn,hcap,_⟩
    ·exact absurd rfl h3
    have hpos:0<xs.length:=List.length_pos_iff.2 h3
    refine ⟨.slice (some ⟨(ρ key).blk,0,none⟩) q.toNat (ρ key).cap,?_,rfl⟩
    unfold Instr.sliceAt
    rw[wc,wm hund];simp only
    unfold Instr.slice
    rw[wc,wm hund];simp only
    rw[wc,jF (len:=c) hl hh (Int.le_refl 0) (by simpa using h0) (by simpa using h1) (by omega)];simp only
    rw[wc,wZ hj,hjs]
    have e1:((some q:Option Int).getD (c:Int)).toNat=q.toNat:=by simp
    have e0:((none:Option Int).getD 0).toNat=0:=rfl
    have hlt:¬(ρ key).cap=0:=by omega
    have ha:(⟨(ρ key).blk,0,none⟩:Addr).add (0*i.esz)=⟨(ρ key).blk,0+0*i.esz,none⟩:=kx (ρ key).blk 0 0 i.esz
    rw[e1,e0]
    simp only[Option.map_some,ha,Nat.zero_mul,Nat.zero_add,if_neg hlt,Nat.sub_zero]
    rfl
   ·cases h
  ·cases h
 ·rename_i e l
  split at h
  ·rename_i hg
   simp only[Bool.and_eq_true,beq_iff_eq] at hg
   obtain ⟨hslc,he⟩:=hg
   simp only[Option.some.injEq,Prod.mk.injEq] at h;obtain ⟨rfl,rfl⟩:=h
   obtain ⟨v,hv,hs⟩:=hu
   simp only[List.cons.injEq,and_true] at hv;subst hv
   obtain ⟨h0,h1,h2⟩:=hC
   obtain ⟨hund,hesz⟩:=ht.slc hslc
   obtain ⟨j,hj,hjs⟩:=zW hesz
   have run:∀(a:Option Addr) (n c:Nat),n=l.length->l.length<=c->(Instr.sliceAt T (.slice a n c) vl vh none).run P w =
     .ok (.slice (if c=(lo.getD 0).toNat then a else a.map (·.add ((lo.getD 0).toNat*i.esz))) ((hi.getD (l.length:Int)).toNat-(lo.getD 0).toNat) (c-(lo.getD 0).toNat)) w:=by
    intro a n c hn hc
    subst hn
    unfold Instr.sliceAt
    rw[wc,wm hund];simp only
    unfold Instr.slice
    rw[wc,wm hund];simp only
    rw[wc,jF hl hh h0 h1 h2 hc];simp only
    rw[wc,wZ hj,hjs];rfl
   rcases hs with ⟨a,rfl,rfl⟩|⟨b,off,cap,cells,T',fr,rfl,g2,g3,g4,g5⟩
   ·refine ⟨_,run a 0 0 rfl (Nat.le_refl _),_,rfl,?_⟩
    simp only[List.length_nil] at h1 h2 ⊢
    left
    have e1:(lo.getD 0).toNat=0:=by omega
    have e2:(hi.getD ((0:Nat):Int)).toNat=0:=by omega
    rw[e1,e2];exact ⟨a,by simp,by simp⟩
   ·refine ⟨_,run _ _ cap rfl g2,_,rfl,?_⟩
    rw[<-he]
    exact XU (R:=e.R m) g2 g3 g4 g5 (lo.getD 0).toNat (hi.getD (l.length:Int)).toNat (by omega) (by omega)
  ·cases h
 ·rename_i s
  split at h
  ·rename_i hg
   simp only[beq_iff_eq] at hg
   simp only[Option.some.injEq,Prod.mk.injEq] at h;obtain ⟨rfl,rfl⟩:=h
   simp only[Cv] at hu;subst hu
   obtain ⟨h0,h1,h2⟩:=hC
   obtain ⟨d,hd,_,htag⟩:=ht.und
   have:d=.string:=by rw[hg] at htag;cases d<;>simp_all [xJ]
   subst this
   refine ⟨_,?_,rfl⟩
   unfold Instr.sliceAt
   rw[wc,wm hd];simp only
   unfold Instr.slice
   rw[wc,wm hd];simp only[Option.isSome_none,Bool.false_eq_true,if_false]
   rw[wc,jF hl hh h0 h1 h2 (Nat.le_refl _)];rfl
  ·cases h
 ·rename_i k y
  split at h
  ·rename_i hg
   simp only[Bool.and_eq_true,beq_iff_eq] at hg
   obtain ⟨harr,he⟩:=hg
   split at h
   ·rename_i l hl'
    simp only[Option.some.injEq,Prod.mk.injEq] at h;obtain ⟨rfl,rfl⟩:=h
    obtain ⟨b,off,cells,T',fr,rfl,m1,m2,m3⟩:=hu
    obtain ⟨u1,u2,u3⟩:=ZF i.alen k y l _ hl' m3
    obtain ⟨h0,h1,h2⟩:=hC
    obtain ⟨hund,hesz,_⟩:=ht.arr harr
    obtain ⟨j,hj,hjs⟩:=zW hesz
    have hkn:k.n=i.alen*(elK i.alen k).n:=by
     have:=Kd.R.len _ _ _ m3;omega
    refine ⟨.slice (some (if l.length=(lo.getD 0).toNat then ⟨b,off,none⟩ else (⟨b,off,none⟩:Addr).add ((lo.getD 0).toNat*i.esz))) ((hi.getD (l.length:Int)).toNat-(lo.getD 0).toNat) (l.length-(lo.getD 0).toNat),?_,_,rfl,?_⟩
    ·unfold Instr.sliceAt
     rw[wc,wm hund];simp only
     rw[wc,show (Instr.sureAddr (.pointer (some ⟨b,off,none⟩))).run P w=.ok ⟨b,off,none⟩ w from rfl];simp only
     rw[show Instr.sliceBounds false i.alen i.alen vl vh none=Instr.sliceBounds false l.length l.length vl vh none from by rw[u1]]
     rw[wc,jF hl hh h0 h1 h2 (Nat.le_refl _)];simp only
     rw[wc,wZ hj,hjs];rfl
    ·have:=XU (R:=(elK i.alen k).R m) (l:=l) (b:=b) (off:=off) (cap:=l.length) (cells:=cells) (T:=T') (fr:=fr) (sz:=(elK i.alen k).n) (Nat.le_refl _) m1 (by rw[u1];omega) (fun q hq=>by
       have:=u3 q hq
       have hle:(q+1)*(elK i.alen k).n<=l.length*(elK i.alen k).n:=Nat.mul_le_mul_right _ (by omega)
       rw[Nat.add_mul,Nat.one_mul,u1] at hle
       rw[List.drop_take,List.take_take,List.drop_drop,Nat.min_eq_left (by omega)] at this
       exact this) (lo.getD 0).toNat (hi.getD (l.length:Int)).toNat (by omega) (by omega)
     rw[he] at this
     rw[he]
     split
     ·rename_i e;rw[if_pos e] at this;exact this
     ·rename_i e;rw[if_neg e] at this;exact this
   ·cases h
  ·cases h
 ·cases h

theorem Xr {ρ:Nat->Hd} {m:Mem} {A:List (Nat×MV)} {a:Act} (h:v9 ρ m A a) {g:Option Bool} (hg:GOK g) {x:Option Operand} {n:Option Int} {C:Prop} (hx:oint A g x=some (n,C)) (hC:C):Ks n (x.map a.eval):=by
 unfold oint at hx
 split at hx
 ·simp only[Option.some.injEq,Prod.mk.injEq] at hx;obtain ⟨rfl,rfl⟩:=hx;trivial
 ·split at hx
  ·rename_i k n' D hd
   simp only[Option.some.injEq,Prod.mk.injEq] at hx;obtain ⟨rfl,rfl⟩:=hx
   have:=zh h hg hd hC
   exact ⟨k,this⟩
  ·cases hx

theorem Xu {P:Program} {tab:Nat->Option TI} (hT:∀t i,tab t=some i->TOK P t i) (hE:∀t i,tab t=some i->i.eqf=true->EqF P t i) {A:List (Nat×MV)} {L:List (Nat×Option MObj)} {g:Option Bool} (hg:GOK g) {o:Oper} {r:MV} {C:Prop}
  (h:yc tab A L g o.op=some (r,C)) (hC:C) {ρ:Nat->Hd} {m:Mem} {a:Act} {w:World} (hA:v9 ρ m A a) (hO:∀k o,ww L k=some o->osat ρ m w k o) (hM:∀b o,m b=some o->w.heap[b]? = some o) :
  ∃v,(execOp a.eval o).run P w=.ok (.value v) w/\Cv ρ m r v:=by
 have lift:∀(s:Sem Value),(∃v,s.run P w=.ok v w/\Cv ρ m r v)->∃v,(do pure (Next.value (← s)):Sem Next).run P w=.ok (.value v) w/\Cv ρ m r v:=by
  rintro s ⟨v,h1,h2⟩
  exact ⟨v,by rw[wc,h1];rfl,h2⟩
 obtain ⟨dst,op,ty,pos,after,guard⟩:=o
 simp only at h
 unfold yc at h
 split at h
 ·exact ⟨_,rfl,zh hA hg h hC⟩
 ·exact ⟨_,rfl,zh hA hg h hC⟩
 ·rename_i c x y
  split at h
  ·rename_i t D a' b' h1 h2 h3
   split at h
   ·rename_i r' E hp
    simp only[Option.some.injEq,Prod.mk.injEq] at h;obtain ⟨rfl,rfl⟩:=h
    have hc:=zh hA hg h1 hC.1
    simp only[Cv] at hc
    have hx:=WF hA h2
    have hy:=WF hA h3
    unfold Uk at hp
    split at hp
    ·rename_i ta p tb q s1 s2
     simp only[Option.some.injEq,Prod.mk.injEq] at hp;obtain ⟨rfl,rfl⟩:=hp
     refine ⟨if t then a.eval x else a.eval y,?_,?_⟩
     ·show (do pure (Next.value (if ← asBool (a.eval c) then a.eval x else a.eval y)):Sem Next).run P w=_
      rw[hc];rfl
     ·cases t with
      | true =>
       have:=Kv hx (t:=true) rfl (by rw[s1];exact hC.2.1)
       rw[s1] at this;simpa [Cv] using this
      | false =>
       have:=Kv hy (t:=true) rfl (by rw[s2];exact hC.2.2)
       rw[s2] at this;simpa [Cv] using this
    ·cases hp
   ·cases h
  ·cases h
 ·rename_i op' T x y yt
  split at h
  ·rename_i x' D y' E h1 h2
   split at h
   ·rename_i r' F hb
    simp only[Option.some.injEq,Prod.mk.injEq] at h;obtain ⟨rfl,rfl⟩:=h
    exact lift _ (Gs hT hE hb hC.2.2 (zh hA hg h1 hC.1) (zh hA hg h2 hC.2.1) x y w)
   ·split at h
    ·rename_i r' F hb
     simp only[Option.some.injEq,Prod.mk.injEq] at h;obtain ⟨rfl,rfl⟩:=h
     exact lift _ (VG hT hb hC.2.2 (zh hA hg h1 hC.1) (zh hA hg h2 hC.2.1) x y w hO)
    ·cases h
  ·cases h
 ·rename_i op' T x
  split at h
  ·rename_i x' D h1
   split at h
   ·rename_i r' hb
    simp only[Option.some.injEq,Prod.mk.injEq] at h;obtain ⟨rfl,rfl⟩:=h
    exact lift _ (g7 hb (zh hA hg h1 hC) w)
   ·cases h
  ·cases h
 ·rename_i s d x
  split at h
  ·rename_i i0 i k n D h0 h1 h2
   split at h
   ·rename_i k' hk
    simp only[Option.some.injEq,Prod.mk.injEq] at h;obtain ⟨rfl,rfl⟩:=h
    have hc:=zh hA hg h2 hC
    simp only[Cv] at hc
    refine lift _ ⟨.int k' (wb k' n),?_,rfl⟩
    obtain ⟨e,he,_⟩:=(hT _ _ h0).und
    unfold convert
    rw[wc,wm he];simp only
    rw[wc,wm ((hT _ _ h1).ik k' hk),hc]
    rfl
   ·split at h
    ·rename_i htag
     simp only[Option.some.injEq,Prod.mk.injEq] at h;obtain ⟨rfl,rfl⟩:=h
     have hc:=zh hA hg h2 hC.1
     simp only[Cv] at hc
     obtain ⟨e,he,_⟩:=(hT _ _ h0).und
     obtain ⟨dd,hd,_,htg⟩:=(hT _ _ h1).und
     have:dd=.string:=by rw[beq_iff_eq.1 htag] at htg;cases dd<;>simp_all [xJ]
     subst this
     refine lift _ ⟨.string (rstr n),?_,rfl⟩
     obtain ⟨q,rfl⟩:∃q:Nat,n=q:=⟨n.toNat,by omega⟩
     rw[uR (by omega)]
     unfold convert
     rw[wc,wm he];simp only
     rw[wc,wm hd,hc]
     cases e<;>rfl
    ·cases h
  ·rename_i j i l D h0 h1 h2
   split at h
   ·rename_i hgd
    simp only[Bool.and_eq_true,beq_iff_eq,Option.any_eq_true_iff_get] at hgd
    obtain ⟨⟨hslc,htag⟩,he⟩:=hgd
    simp only[Option.some.injEq,Prod.mk.injEq] at h;obtain ⟨rfl,rfl⟩:=h
    obtain ⟨v,hv,hs⟩:=zh hA hg h2 hC
    simp only[List.cons.injEq,and_true] at hv
    obtain ⟨hund,_⟩:=(hT _ _ h0).slc hslc
    obtain ⟨ie,hie,hik⟩:∃ie,tab j.elem=some ie/\ie.ik=some .u8:=by
     obtain ⟨h3,h4⟩:=he
     exact ⟨_,(Option.some_get h3).symm,h4⟩
    have heu:=(hT _ _ hie).ik _ hik
    obtain ⟨dd,hd,_,htg⟩:=(hT _ _ h1).und
    have:dd=.string:=by rw[htag] at htg;cases dd<;>simp_all [xJ]
    subst this
    refine lift _ ⟨.string (bstr l),?_,rfl⟩
    rw[hv]
    rcases hs with ⟨a0,rfl,rfl⟩|⟨b,off,cap,cells,T',fr,rfl,g2,g3,g4,g5⟩
    ·rw[run_convert_bytes_string w s d j.elem a0 0 0 hund heu hd]
     cases a0 with
     | none=>rfl
     | some a0=>rfl
    ·have hn1:(Kd.int IntKind.u8).n=1:=rfl
     simp only[hn1,Nat.mul_one] at g4 g5
     rw[run_convert_bytes_string w s d j.elem _ l.length cap hund heu hd]
     refine run_bytesToString w _ _ _ l ?_
     rw[yR (hM _ _ g3) (by simpa using g4)]
     congr 2
     apply List.ext_getElem
     ·simp at g4 ⊢;omega
     ·intro q q1 q2
      have hq:q<l.length:=by simpa using q2
      have:=g5 q hq
      have:(cells.toList.drop (off+q)).take 1=[Value.int .u8 l[q]]:=this
      have h9:((cells.toList.drop (off+q)).take 1)[0]? = some (Value.int .u8 l[q]):=by rw[this];rfl
      rw[List.getElem?_take,if_pos (by decide),List.getElem?_drop,Nat.add_zero] at h9
      simp only[List.getElem_take,List.getElem_drop,List.getElem_map]
      exact (List.getElem_eq_iff _).2 h9
   ·cases h
  ·cases h
 ·rename_i S x f
  split at h
  ·rename_i i x' D h0 h1
   split at h
   ·rename_i r' hb
    simp only[Option.some.injEq,Prod.mk.injEq] at h;obtain ⟨rfl,rfl⟩:=h
    exact lift _ (ZY (hT _ _ h0) hb (zh hA hg h1 hC) w)
   ·cases h
  ·cases h
 ·rename_i S x f
  split at h
  ·rename_i i x' D h0 h1
   split at h
   ·rename_i r' hb
    simp only[Option.some.injEq,Prod.mk.injEq] at h;obtain ⟨rfl,rfl⟩:=h
    exact lift _ (Y5 (hT _ _ h0) hb (zh hA hg h1 hC) w)
   ·cases h
  ·cases h
 ·rename_i T x
  split at h
  ·rename_i i x' D h0 h1
   split at h
   ·rename_i r' E hb
    simp only[Option.some.injEq,Prod.mk.injEq] at h;obtain ⟨rfl,rfl⟩:=h
    exact lift _ (KL (hT _ _ h0) hb hC.2 hO hM (zh hA hg h1 hC.1))
   ·cases h
  ·cases h
 ·rename_i T x n
  split at h
  ·rename_i i x' D k n' E h0 h1 h2
   split at h
   ·rename_i r' F hb
    simp only[Option.some.injEq,Prod.mk.injEq] at h;obtain ⟨rfl,rfl⟩:=h
    have hn:=zh hA hg h2 hC.2.1
    simp only[Cv] at hn
    refine lift (Instr.indexAt T (a.eval x) (a.eval n)) ?_
    rw[hn]
    exact Z2 (hT _ _ h0) hb hC.2.2 hO (zh hA hg h1 hC.1) k
   ·cases h
  ·cases h
 ·rename_i T x n
  split at h
  ·rename_i i x' D k n' E h0 h1 h2
   split at h
   ·rename_i r' F hb
    simp only[Option.some.injEq,Prod.mk.injEq] at h;obtain ⟨rfl,rfl⟩:=h
    have hn:=zh hA hg h2 hC.2.1
    simp only[Cv] at hn
    refine lift (Instr.index T (a.eval x) (a.eval n)) ?_
    rw[hn]
    exact YY (hT _ _ h0) hb hC.2.2 (zh hA hg h1 hC.1) k w
   ·cases h
  ·cases h
 ·rename_i x j
  split at h
  ·rename_i l D h1
   split at h
   ·rename_i r' hj
    simp only[Option.some.injEq,Prod.mk.injEq] at h;obtain ⟨rfl,rfl⟩:=h
    obtain ⟨vs,hv,hl⟩:=zh hA hg h1 hC
    obtain ⟨v,h2,h3⟩:=CvL.get hl j _ hj
    refine lift (Instr.extract (a.eval x) j) ⟨v,?_,h3⟩
    rw[hv]
    simp[Instr.extract,h2]
   ·cases h
  ·cases h
 ·rename_i x
  split at h
  ·rename_i k off D h1
   simp only[Option.some.injEq,Prod.mk.injEq] at h;obtain ⟨rfl,rfl⟩:=h
   have hc:=zh hA hg h1 hC
   refine ⟨a.eval x,?_,hc⟩
   simp only[Cv] at hc
   unfold execOp;simp only;rw[hc];rfl
  ·rename_i k j off D h1
   simp only[Option.some.injEq,Prod.mk.injEq] at h;obtain ⟨rfl,rfl⟩:=h
   have hc:=zh hA hg h1 hC
   refine ⟨a.eval x,?_,hc⟩
   simp only[Cv] at hc
   unfold execOp;simp only;rw[hc];rfl
  ·rename_i k o j D h1
   simp only[Option.some.injEq,Prod.mk.injEq] at h;obtain ⟨rfl,rfl⟩:=h
   have hc:=zh hA hg h1 hC
   refine ⟨a.eval x,?_,hc⟩
   simp only[Cv] at hc
   unfold execOp;simp only;rw[hc];rfl
  ·rename_i k y D h1
   simp only[Option.some.injEq,Prod.mk.injEq] at h;obtain ⟨rfl,rfl⟩:=h
   have hc:=zh hA hg h1 hC
   refine ⟨a.eval x,?_,hc⟩
   obtain ⟨b,off,cells,T',fr,hc,_⟩:=hc
   unfold execOp;simp only;rw[hc];rfl
  ·rename_i t y D h1
   simp only[Option.some.injEq,Prod.mk.injEq] at h;obtain ⟨rfl,rfl⟩:=h
   have hc:=zh hA hg h1 hC
   refine ⟨a.eval x,?_,hc⟩
   obtain ⟨y',hc,_⟩:=hc
   unfold execOp;simp only;rw[hc];rfl
  ·cases h
 ·rename_i T x n
  split at h
  ·rename_i i key D kn n' E h0 h1 h2
   split at h
   ·rename_i hk
    split at h
    ·rename_i hmp
     simp only[Option.some.injEq,Prod.mk.injEq] at h;obtain ⟨rfl,rfl⟩:=h
     have hx:=zh hA hg h1 hC.1
     have hn:=zh hA hg h2 hC.2
     simp only[Cv] at hx hn
     obtain ⟨K,ik,j,hu,hku,hj,hz⟩:=(hT _ _ h0).mp hmp
     obtain ⟨g0,c,g1⟩:=hO _ _ hk
     refine lift (Instr.lookup T (a.eval x) (a.eval n) true) ⟨.tuple #[.string ⟨#[]⟩,.bool false],?_,_,rfl,_,_,rfl,rfl,_,_,rfl,rfl,rfl⟩
     rw[hx,hn]
     exact K7 hu hku hj hz g1 kn n'
    ·cases h
   ·cases h
  ·cases h
 ·rename_i T x
  split at h
  ·rename_i i x' D h0 h1
   split at h
   ·rename_i htag
    simp only[Option.some.injEq,Prod.mk.injEq] at h;obtain ⟨rfl,rfl⟩:=h
    have hc:=zh hA hg h1 hC
    refine lift (Instr.makeInterface T (a.eval x)) ⟨.iface T (a.eval x),?_,_,rfl,hc⟩
    obtain ⟨d,hd,_,ht⟩:=(hT _ _ h0).und
    unfold Instr.makeInterface
    rw[wc,wm hd]
    simp only[beq_iff_eq] at htag
    rw[htag] at ht
    cases d<;>simp[xJ] at ht<;>rfl
   ·cases h
  ·cases h
 ·rename_i f first cap
  split at h
  ·rename_i hf
   split at h
   ·rename_i l D h1
    simp only[Option.some.injEq,Prod.mk.injEq] at h;obtain ⟨rfl,rfl⟩:=h
    have hc:=j2 hA hg h1 hC
    refine lift (Instr.makeFunc (.func f) (first.map a.eval) (cap.map a.eval)) ⟨_,rfl,_,?_,hc⟩
    have:first=#[]:=by simpa using hf
    subst this
    rw[show cap.map a.eval=(List.map a.eval cap.toList).toArray by apply Array.ext';simp,Array.map_empty]
   ·cases h
  ·split at h
   ·rename_i hf
    split at h
    ·rename_i x D h1
     simp only[Option.some.injEq,Prod.mk.injEq] at h;obtain ⟨rfl,rfl⟩:=h
     obtain ⟨v,us,hv,hc,hn⟩:=j2 hA hg h1 hC
     have hn':us=[]:=hn
     subst hn'
     have hcap:cap=#[]:=by simpa using hf
     subst hcap
     refine lift (Instr.makeFunc (.func f) (first.map a.eval) ((#[]:Array Operand).map a.eval)) ⟨_,rfl,v,?_,hc⟩
     rw[show first.map a.eval=(List.map a.eval first.toList).toArray by apply Array.ext';simp,hv,Array.map_empty]
    ·cases h
   ·cases h
 ·rename_i t parts
  split at h
  ·rename_i i ps D h0 h1
   split at h
   ·rename_i r' hb
    simp only[Option.some.injEq,Prod.mk.injEq] at h;obtain ⟨rfl,rfl⟩:=h
    obtain ⟨g1,g2⟩:=vJ hA hg h1 hC
    refine lift (Instr.build t (parts.map fun (i,x)=>(i,a.eval x))) ?_
    have:=Y3 (hT _ _ h0) hb g1 g2 w
    rw[show (parts.map fun (i,x)=>(i,a.eval x))=(parts.toList.map fun x=>(x.1,a.eval x.2)).toArray by apply Array.ext';simp]
    exact this
   ·cases h
  ·cases h
 ·rename_i T x lo hi
  split at h
  ·rename_i i x' D lo' E hi' F h0 h1 h2 h3
   split at h
   ·rename_i r' G hb
    simp only[Option.some.injEq,Prod.mk.injEq] at h;obtain ⟨rfl,rfl⟩:=h
    exact lift (Instr.sliceAt T (a.eval x) (lo.map a.eval) (hi.map a.eval) none) (Y0 (hT _ _ h0) hb hC.2.2.2 (zh hA hg h1 hC.1) (Xr hA hg h2 hC.2.1) (Xr hA hg h3 hC.2.2.1) w hO)
   ·cases h
  ·cases h
 ·rename_i args argTypes
  split at h
  ·rename_i T x D h0 h1
   split at h
   ·rename_i i hi
    split at h
    ·rename_i r' hb
     simp only[Option.some.injEq,Prod.mk.injEq] at h;obtain ⟨rfl,rfl⟩:=h
     obtain ⟨v,us,hv,hx,hus⟩:=j2 hA hg h1 hC
     simp only[CvL] at hus;subst hus
     have hargs:args.map a.eval=#[v]:=by apply Array.ext';simpa using hv
     refine lift (Builtin.len_ argTypes ty (args.map a.eval)) ?_
     rw[hargs]
     exact Gm (hT _ _ hi) hb hO hx argTypes h0 ty
    ·cases h
   ·cases h
  ·cases h
 ·rename_i args argTypes
  split at h
  ·rename_i x l D h1
   split at h
   ·rename_i r' hb
    simp only[Option.some.injEq,Prod.mk.injEq] at h;obtain ⟨rfl,rfl⟩:=h
    obtain ⟨v,us,hv,hx,hus⟩:=j2 hA hg h1 hC
    have hargs:args.map a.eval=(v::us).toArray:=by apply Array.ext';simpa using hv
    refine lift (Builtin.min_ argTypes ty (args.map a.eval)) ?_
    rw[hargs]
    exact Zk w hb hx hus
   ·cases h
  ·cases h
 ·rename_i args argTypes
  split at h
  ·rename_i x l D h1
   split at h
   ·rename_i r' hb
    simp only[Option.some.injEq,Prod.mk.injEq] at h;obtain ⟨rfl,rfl⟩:=h
    obtain ⟨v,us,hv,hx,hus⟩:=j2 hA hg h1 hC
    have hargs:args.map a.eval=(v::us).toArray:=by apply Array.ext';simpa using hv
    refine lift (Builtin.max_ argTypes ty (args.map a.eval)) ?_
    rw[hargs]
    exact Zv w hb hx hus
   ·cases h
  ·cases h
 ·cases h
end
section

def qQ (U:List (Nat×Option MObj)) (L:Nat->Option MObj) (k:Nat):Option MObj :=
  match U with
  | []=>L k
  | (k',o)::U'=>if k'==k then o else qQ U' L k
theorem yK (U L:List (Nat×Option MObj)):ww (U++L)=qQ U (ww L):=by
 induction U with
 | nil=>rfl
 | cons q U ih =>
  obtain ⟨k',o⟩:=q
  funext k
  simp only[List.cons_append,ww,qQ]
  rw[ih]

def Xw:MObj->Bool
  | .rr own _ _ _=>!own
  | _=>true
theorem KT {o:MObj} (h:Xw o=true) {ρ:Nat->Hd} {w:World} {key b:Nat}:¬inner ρ w key o b:=by
 cases o with
 | rr own e xss hh=>intro hi;have:=hi.1;subst this;cases h
 | _=>exact fun hi=>hi.elim

theorem Hp.turnR {X:Nat->Prop} {ρ ρ':Nat->Hd} {m:Mem} {L:Nat->Option MObj} {w w':World} (h:Hp X ρ m L w) (key:Nat) (oo:Option MObj) (D:Nat->Prop)
  (hρ:∀k,k≠key->ρ' k=ρ k) (hfr:ρ' key=ρ key\/∀k o,L k=some o->k≠key->o.has key=false)
  (hw:∀b,b<w.heap.size->¬D b->w'.heap[b]? = w.heap[b]?) (hsz:w.heap.size<=w'.heap.size)
  (hDm:∀b,b<w.heap.size->D b->m b=none) (hDk:∀k o b,k≠key->L k=some o->foot ρ k b->¬D b)
  (hDi:∀k o b,k≠key->L k=some o->inner ρ w k o b->¬D b)
  (hnew:∀o,oo=some o->osat ρ' m w' key o/\(∀b,foot ρ' key b->m b=none/\¬X b/\(∀k o',k≠key->L k=some o'->¬foot ρ k b/\¬inner ρ w k o' b)) ∧
   ∀b,inner ρ' w' key o b->m b=none/\¬X b/\¬foot ρ' key b/\∀k o',k≠key->L k=some o'->¬foot ρ k b/\¬inner ρ w k o' b) :
  Hp X ρ' m (fun k=>if key==k then oo else L k) w':=by
 have fk:∀k b,k≠key->(foot ρ' k b↔foot ρ k b):=fun k b hk=>by unfold foot;rw[hρ k hk]
 have fi:∀k o b,k≠key->L k=some o->(inner ρ' w' k o b↔inner ρ w k o b):=fun k o b hk ho=>xG (hρ k hk) (fun hn=>hw _ (xy h ho ⟨hn,rfl⟩) (hDk k o _ hk ho ⟨hn,rfl⟩)) o b
 have sel:∀k o,(if key==k then oo else L k)=some o->(k=key/\oo=some o)\/(k≠key/\L k=some o):=by
  intro k o hk
  by_cases e:key=k
  ·subst e;simp at hk;exact .inl ⟨rfl,hk⟩
  ·simp[e] at hk;exact .inr ⟨fun x=>e x.symm,hk⟩
 refine ⟨fun b o hb=>?_,fun k o hk=>?_,fun k o k' o' b hk hk' hf hf'=>?_,fun k o b hk hf=>?_,fun k o b hk hf=>?_,fun b hb=>Nat.lt_of_lt_of_le (h.lt b hb) hsz,fun k o b hk hi=>?_⟩
 ·have hlt:=WG h hb
  rw[hw b hlt (fun hD=>by rw[hDm b hlt hD] at hb;cases hb)];exact h.mem b o hb
 ·rcases sel k o hk with ⟨rfl,ho⟩|⟨hne,ho⟩
  ·exact (hnew o ho).1
  ·refine osat.mono (Mle.refl m) (fun d hd=>?_) (hρ k hne) (fun b hf=>?_) (fun b hf=>?_) (h.obj k o ho)
   ·by_cases e:d=key
    ·subst e
     rcases hfr with hfr|hfr
     ·exact hfr
     ·rw[hfr k o ho hne] at hd;cases hd
    ·exact hρ d e
   ·exact hw b (xy h ho hf) (hDk k o b hne ho hf)
   ·exact hw b (xU h ho hf) (hDi k o b hne ho hf)
 ·rcases sel k o hk with ⟨rfl,ho⟩|⟨hne,ho⟩<;>rcases sel k' o' hk' with ⟨rfl,ho'⟩|⟨hne',ho'⟩
  ·rfl
  ·exact absurd ((fk k' b hne').1 hf') (((hnew o ho).2.1 b hf).2.2 k' o' hne' ho').1
  ·exact absurd ((fk k b hne).1 hf) (((hnew o' ho').2.1 b hf').2.2 k o hne ho).1
  ·exact h.dj k o k' o' b ho ho' ((fk k b hne).1 hf) ((fk k' b hne').1 hf')
 ·rcases sel k o hk with ⟨rfl,ho⟩|⟨hne,ho⟩
  ·exact ((hnew o ho).2.1 b hf).1
  ·exact h.djm k o b ho ((fk k b hne).1 hf)
 ·rcases sel k o hk with ⟨rfl,ho⟩|⟨hne,ho⟩
  ·exact ((hnew o ho).2.1 b hf).2.1
  ·exact h.djX k o b ho ((fk k b hne).1 hf)
 ·rcases sel k o hk with ⟨rfl,ho⟩|⟨hne,ho⟩
  ·obtain ⟨n1,n2,n3,n4⟩:=(hnew o ho).2.2 b hi
   refine ⟨n1,n2,fun k' o' hk' hf'=>?_,fun k' o' hk' hi'=>?_⟩
   ·rcases sel k' o' hk' with ⟨rfl,ho'⟩|⟨hne',ho'⟩
    ·exact n3 hf'
    ·exact (n4 k' o' hne' ho').1 ((fk k' b hne').1 hf')
   ·rcases sel k' o' hk' with ⟨rfl,ho'⟩|⟨hne',ho'⟩
    ·rfl
    ·exact absurd ((fi k' o' b hne' ho').1 hi') (n4 k' o' hne' ho').2
  ·have hi0:=(fi k o b hne ho).1 hi
   obtain ⟨n1,n2,n3,n4⟩:=h.inn k o b ho hi0
   refine ⟨n1,n2,fun k' o' hk' hf'=>?_,fun k' o' hk' hi'=>?_⟩
   ·rcases sel k' o' hk' with ⟨rfl,ho'⟩|⟨hne',ho'⟩
    ·exact (((hnew o' ho').2.1 b hf').2.2 k o hne ho).2 hi0
    ·exact n3 k' o' ho' ((fk k' b hne').1 hf')
   ·rcases sel k' o' hk' with ⟨rfl,ho'⟩|⟨hne',ho'⟩
    ·exact absurd hi0 (((hnew o' ho').2.2 b hi').2.2.2 k o hne ho).2
    ·exact n4 k' o' ho' ((fi k' o' b hne' ho').1 hi')

def setρ (ρ:Nat->Hd) (d:Nat) (h:Hd):Nat->Hd:=fun k=>if k=d then h else ρ k
theorem Hp.turn {X:Nat->Prop} {ρ ρ':Nat->Hd} {m:Mem} {L:Nat->Option MObj} {w w':World} (h:Hp X ρ m L w) (key:Nat) (oo:Option MObj) (D:Nat->Prop)
  (hρ:∀k,k≠key->ρ' k=ρ k) (hfr:ρ' key=ρ key\/∀k o,L k=some o->k≠key->o.has key=false)
  (hw:∀b,b<w.heap.size->¬D b->w'.heap[b]? = w.heap[b]?) (hsz:w.heap.size<=w'.heap.size)
  (hDm:∀b,b<w.heap.size->D b->m b=none) (hDk:∀k o b,k≠key->L k=some o->foot ρ k b->¬D b)
  (hnew:∀o,oo=some o->osat ρ' m w' key o/\∀b,foot ρ' key b->m b=none/\¬X b/\∀k o',k≠key->L k=some o'->¬foot ρ k b)
  (hDi:∀k o b,k≠key->L k=some o->inner ρ w k o b->¬D b:=by intro k o b hne hk' hi hb;first|exact hb.elim|(have:=xU (by assumption) hk' hi;omega)|exact (Hp.inn (by assumption) k o b hk' hi).2.2.1 _ _ (by assumption) ⟨by assumption,hb⟩|exact (Hp.inn (by assumption) k o b hk' hi).2.2.1 _ _ (by assumption) hb)
  (hni:∀o,oo=some o->∀b,foot ρ' key b->∀k o',k≠key->L k=some o'->¬inner ρ w k o' b:=by intro o ho b hf k o' hne hk' hi;first|(cases ho;done)|exact (Hp.inn (by assumption) k o' b hk' hi).2.2.1 _ _ (by assumption) hf|(have h1:=hf.1;simp[setρ] at h1;done)|(have h1:=xU (by assumption) hk' hi;have h2:=hf.2;simp[setρ] at h2;omega)) (hfl:∀o,oo=some o->Xw o=true:=by intro o ho;first|(cases ho;done)|(cases ho;rfl)|(cases ho;assumption)) :
  Hp X ρ' m (fun k=>if key==k then oo else L k) w' :=
 h.turnR key oo D hρ hfr hw hsz hDm hDk hDi fun o ho=>⟨(hnew o ho).1,fun b hf=>⟨((hnew o ho).2 b hf).1,((hnew o ho).2 b hf).2.1,fun k o' hne hk'=>⟨((hnew o ho).2 b hf).2.2 k o' hne hk',hni o ho b hf k o' hne hk'⟩⟩,fun b hi=>absurd hi (KT (hfl o ho))⟩

theorem Hp.weak {X:Nat->Prop} {ρ:Nat->Hd} {m:Mem} {L L':Nat->Option MObj} {w:World} (h:Hp X ρ m L w) (hL:∀k o,L' k=some o->L k=some o):Hp X ρ m L' w :=
 ⟨h.mem,fun k o hk=>h.obj k o (hL k o hk),fun k o k' o' b hk hk'=>h.dj k o k' o' b (hL _ _ hk) (hL _ _ hk'),fun k o b hk=>h.djm k o b (hL _ _ hk),fun k o b hk=>h.djX k o b (hL _ _ hk),h.lt,fun k o b hk hi=>by
  obtain ⟨i1,i2,i3,i4⟩:=h.inn k o b (hL _ _ hk) hi
  exact ⟨i1,i2,fun k' o' hk'=>i3 k' o' (hL _ _ hk'),fun k' o' hk'=>i4 k' o' (hL _ _ hk')⟩⟩

theorem Hp.heap {X:Nat->Prop} {ρ:Nat->Hd} {m:Mem} {L:Nat->Option MObj} {w w':World} (h:Hp X ρ m L w) (e:w'.heap=w.heap):Hp X ρ m L w' :=
 ⟨fun b o hb=>by rw[e];exact h.mem b o hb,fun k o hk=>osat.mono (Mle.refl m) (fun _ _=>rfl) rfl (fun _ _=>by rw[e]) (fun _ _=>by rw[e]) (h.obj k o hk),h.dj,h.djm,h.djX,fun b hb=>by rw[e];exact h.lt b hb,fun k o b hk hi=>by
  have fi:∀k o b,inner ρ w' k o b↔inner ρ w k o b:=fun k o b=>xG rfl (fun _=>by rw[e]) o b
  obtain ⟨i1,i2,i3,i4⟩:=h.inn k o b hk ((fi k o b).1 hi)
  exact ⟨i1,i2,i3,fun k' o' hk' hi'=>i4 k' o' hk' ((fi k' o' b).1 hi')⟩⟩

def ocell:Value->Bool
  | .agg _=>false
  | .tuple _=>false
  | _=>true
def cellm:MV->Bool
  | .agg _=>false
  | .tup _=>false
  | .cnd _ _=>false
  | .raw _=>false
  | .im (.slice _) _=>true
  | .im _ _=>false
  | _=>true
theorem Uv {ρ:Nat->Hd} {m:Mem} {x:MV} {v:Value} (hc:cellm x=true) (h:Cv ρ m x v):ocell v=true:=by
 cases x with
 | agg l=>simp[cellm] at hc
 | tup l=>simp[cellm] at hc
 | cnd t y=>simp[cellm] at hc
 | raw u=>simp[cellm] at hc
 | im k y =>
  cases k with
  | slice e =>
   obtain ⟨z,hz,h2⟩:=h
   simp only[List.cons.injEq,and_true] at hz
   rcases h2 with ⟨_,h3,_⟩|⟨b,off,cap,cells,T',fr,h3,_⟩<;>rw[hz,h3]<;>rfl
  | _=>simp[cellm] at hc
 | int k y=>simp only[Cv] at h;rw[h];rfl
 | bool y=>simp only[Cv] at h;rw[h];rfl
 | str y=>simp only[Cv] at h;rw[h];rfl
 | nilp=>simp only[Cv] at h;rw[h];rfl
 | nils=>simp only[Cv] at h;rw[h];rfl
 | nilf=>simp only[Cv] at h;rw[h];rfl
 | nili=>simp only[Cv] at h;rw[h];rfl
 | nilm=>simp only[Cv] at h;rw[h];rfl
 | p k o=>simp only[Cv] at h;rw[h];rfl
 | hd k o=>simp only[Cv] at h;rw[h];rfl
 | sv k o=>simp only[Cv] at h;rw[h];rfl
 | sp k o=>simp only[Cv] at h;rw[h];rfl
 | pf k o j=>simp only[Cv] at h;rw[h];rfl
 | pe k j o=>simp only[Cv] at h;rw[h];rfl
 | sl k=>simp only[Cv] at h;rw[h];unfold Hd.hdr;split<;>rfl
 | mp k=>simp only[Cv] at h;rw[h];rfl
 | pim k y=>obtain ⟨b,off,cells,T',fr,h1,_⟩:=h;rw[h1];rfl
 | fn f l=>obtain ⟨vs,h1,_⟩:=h;rw[h1];rfl
 | ifc t y=>obtain ⟨z,h1,_⟩:=h;rw[h1];rfl
 | bm t y=>obtain ⟨z,h1,_⟩:=h;rw[h1];rfl

theorem yr {ρ:Nat->Hd} {m:Mem}:∀{l:List MV} {vs:List Value},l.all cellm=true->CvL ρ m l vs->∀v∈vs,ocell v=true
 | [],vs,_,h,v,hv=>by simp only[CvL] at h;subst h;cases hv
 | x::l,vs,hc,⟨u,us,h,hx,hl⟩,v,hv=>by
  subst h
  simp only[List.all_cons,Bool.and_eq_true] at hc
  rcases List.mem_cons.1 hv with rfl|hv
  ·exact Uv hc.1 hx
  ·exact yr hc.2 hl v hv

structure Wr (w w':World) (b:Nat) (o:Obj):Prop where
  at_:w'.heap[b]? = some o
  un:∀b',b'≠b->w'.heap[b']? = w.heap[b']?
  size:w'.heap.size=w.heap.size
  os:w'.os=w.os
  out:w'.output=w.output
  tape:w'.tape=w.tape

theorem Qr {P:Program} {w:World} {b off:Nat} {arr:Array Value} {T:TypeId} (h:w.heap[b]? = some (.cells arr T (0,0))) (ho:off<arr.size) {v:Value} (hv:ocell v=true) :
  (store ⟨b,off,none⟩ v).run P w=.ok () (w.setCell ⟨b,off,none⟩ v)/\Wr w (w.setCell ⟨b,off,none⟩ v) b (.cells (arr.set off v ho) T (0,0)):=by
 have hc:w.cell? ⟨b,off,none⟩=some arr[off]:=by rw[Wh h];simp[ho]
 have hf:w.frozen? ⟨b,off,none⟩=false:=by simp[World.frozen?,h]
 have hb:b<w.heap.size:=(Array.getElem?_eq_some_iff.1 h).1
 refine ⟨?_,?_,fun b' hb'=>?_,?_,rfl,rfl,rfl⟩
 ·cases v<;>simp only[ocell,reduceCtorEq] at hv<;>simp[store,Sem.run,hc,hf]
 ·simp only[World.setCell,Array.getElem?_modify]
  rw[h]
  simp[Array.setIfInBounds,ho]
 ·simp only[World.setCell,Array.getElem?_modify]
  rw[if_neg (fun e=>hb' e.symm)]
 ·simp[World.setCell]

theorem ko {P:Program} {b off:Nat} {T:TypeId}:∀(vs:List Value) (i:Nat) (w:World) (cs:List Value),w.heap[b]? = some (.cells cs.toArray T (0,0))->off+i+vs.length<=cs.length->(∀v∈vs,ocell v=true) →
  ∃w',(storeCells ⟨b,off,none⟩ vs i).run P w=.ok () w'/\Wr w w' b (.cells (cs.take (off+i)++(vs++cs.drop (off+i+vs.length))).toArray T (0,0))
 | [],i,w,cs,h,_,_=>⟨w,rfl,by simpa using h,fun _ _=>rfl,rfl,rfl,rfl,rfl⟩
 | v::vs,i,w,cs,h,hl,hv=>by
  simp only[List.length_cons] at hl
  have hlt:off+i<cs.toArray.size:=by simp;omega
  obtain ⟨h1,h2⟩:=Qr (P:=P) h hlt (hv v (by simp))
  obtain ⟨w',h3,h4⟩:=ko (P:=P) (b:=b) (off:=off) (T:=T) vs (i+1) _ (cs.set (off+i) v) (by rw[h2.at_];simp) (by simp;omega) (fun u hu=>hv u (by simp[hu]))
  refine ⟨w',?_,?_⟩
  ·unfold storeCells
   rw[Q4,wc,h1];simp only
   exact h3
  ·have e1:(cs.set (off+i) v).take (off+(i+1))=cs.take (off+i)++[v]:=by
    rw[show off+(i+1)=off+i+1 by omega,List.take_succ_eq_append_getElem (by simpa using hlt),List.getElem_set_self,List.take_set_of_le (Nat.le_refl _)]
   have e2:(cs.set (off+i) v).drop (off+(i+1)+vs.length)=cs.drop (off+i+(vs.length+1)):=by
    rw[List.drop_set_of_lt (by omega)];congr 1;omega
   have e3:(cs.set (off+i) v).take (off+(i+1))++(vs++(cs.set (off+i) v).drop (off+(i+1)+vs.length))=cs.take (off+i)++(v::vs++cs.drop (off+i+(v::vs).length)):=by
    rw[e1,e2,List.append_assoc];rfl
   rw[e3] at h4
   exact ⟨h4.at_,fun b' hb'=>(h4.un b' hb').trans (h2.un b' hb'),h4.size.trans h2.size,h4.os.trans h2.os,h4.out.trans h2.out,h4.tape.trans h2.tape⟩

theorem ju {P:Program} {w:World} {b off:Nat} {cs:List Value} {T T':TypeId} {i:TI} (ht:TOK P T i) (h:w.heap[b]? = some (.cells cs.toArray T' (0,0))) {v:Value} (hn:v.cells.size=i.size) (hs:off+i.size<=cs.length) (hv:∀u∈v.cells.toList,ocell u=true) :
  ∃w',(Instr.storeAt T (.pointer (some ⟨b,off,none⟩)) v).run P w=.ok () w'/\Wr w w' b (.cells (cs.take off++(v.cells.toList++cs.drop (off+i.size))).toArray T' (0,0)):=by
 obtain ⟨j,z,hj,hsz,_⟩:=ht.info
 obtain ⟨w',h1,h2⟩:=ko (P:=P) (off:=off) v.cells.toList 0 w cs h (by simp[hn];omega) hv
 refine ⟨w',?_,?_⟩
 ·unfold Instr.storeAt
  rw[wc,show (Instr.sureAddr (.pointer (some ⟨b,off,none⟩))).run P w=.ok ⟨b,off,none⟩ w from rfl]
  simp only
  unfold storeVar
  rw[wc,wZ hj,hsz]
  simp only[hn,ne_eq,not_true_eq_false,if_false]
  exact h1
 ·simpa [hn] using h2

def Kd.upd1:(k:Kd)->k.T->Nat->MV->Option k.T
  | .int k,_,f,v=>match v with
    | .int k' y=>if k'=k/\f=0 then some y else none
    | _=>none
  | .bool,_,f,v=>match v with
    | .bool y=>if f=0 then some y else none
    | _=>none
  | .str,_,f,v=>match v with
    | .str y=>if f=0 then some y else none
    | _=>none
  | .slice e,_,f,v=>match v with
    | .im (.slice e') l=>if h:e'=e then (if f=0 then some (h▸l) else none) else none
    | .nils=>if f=0 then some [] else none
    | _=>none
  | .pair a b,x,f,v=>if f<a.n then (a.upd1 x.1 f v).map fun y=>(y,x.2) else (b.upd1 x.2 (f-a.n) v).map fun y=>(x.1,y)
  | .unit,_,_,_=>none
  | .ptr,_,_,_=>none
  | .hdr,_,_,_=>none

theorem QI {ρ:Nat->Hd} {m:Mem} {v:MV} {u:Value} (hv:Cv ρ m v u):∀(k:Kd) (x y:k.T) (f:Nat) (cs:List Value),k.upd1 x f v=some y->k.R m x cs->f<k.n/\k.R m y (cs.set f u)
 | .int k,x,y,f,cs,h,hr=>by
  simp only[Kd.upd1] at h
  split at h
  ·split at h
   ·rename_i hc;obtain ⟨rfl,rfl⟩:=hc
    simp only[Option.some.injEq] at h;subst h
    simp only[Cv] at hv;subst hv
    simp only[Kd.R] at hr;subst hr
    exact ⟨by simp[Kd.n],rfl⟩
   ·cases h
  ·cases h
 | .bool,x,y,f,cs,h,hr=>by
  simp only[Kd.upd1] at h
  split at h
  ·split at h
   ·rename_i hc;subst hc
    simp only[Option.some.injEq] at h;subst h
    simp only[Cv] at hv;subst hv
    simp only[Kd.R] at hr;subst hr
    exact ⟨by simp[Kd.n],rfl⟩
   ·cases h
  ·cases h
 | .str,x,y,f,cs,h,hr=>by
  simp only[Kd.upd1] at h
  split at h
  ·split at h
   ·rename_i hc;subst hc
    simp only[Option.some.injEq] at h;subst h
    simp only[Cv] at hv;subst hv
    simp only[Kd.R] at hr;subst hr
    exact ⟨by simp[Kd.n],rfl⟩
   ·cases h
  ·cases h
 | .slice e,x,y,f,cs,h,hr=>by
  simp only[Kd.upd1] at h
  obtain ⟨v0,rfl,_⟩:=hr
  split at h
  ·rename_i e' l
   split at h
   ·rename_i he
    subst he
    split at h
    ·rename_i hf;subst hf
     simp only[Option.some.injEq] at h;subst h
     exact ⟨by simp[Kd.n],hv⟩
    ·cases h
   ·cases h
  ·split at h
   ·rename_i hf;subst hf
    simp only[Option.some.injEq] at h;subst h
    simp only[Cv] at hv;subst hv
    exact ⟨by simp[Kd.n],_,rfl,.inl ⟨_,rfl,rfl⟩⟩
   ·cases h
  ·cases h
 | .pair a b,x,y,f,cs,h,hr=>by
  obtain ⟨c,d,rfl,h1,h2⟩:=hr
  have lc:=Kd.R.len _ _ _ h1
  simp only[Kd.upd1] at h
  split at h
  ·rename_i hlt
   simp only[Option.map_eq_some_iff] at h
   obtain ⟨z,hz,rfl⟩:=h
   obtain ⟨g1,g2⟩:=QI hv a x.1 z f c hz h1
   refine ⟨by simp only[Kd.n];omega,c.set f u,d,?_,g2,h2⟩
   rw[List.set_append_left _ _ (by omega)]
  ·rename_i hlt
   simp only[Option.map_eq_some_iff] at h
   obtain ⟨z,hz,rfl⟩:=h
   obtain ⟨g1,g2⟩:=QI hv b x.2 z (f-a.n) d hz h2
   refine ⟨by simp only[Kd.n];omega,c,d.set (f-a.n) u,?_,h1,g2⟩
   rw[List.set_append_right _ _ (by omega),lc]
 | .unit,x,y,f,cs,h,hr=>by simp[Kd.upd1] at h
 | .ptr,x,y,f,cs,h,hr=>by simp[Kd.upd1] at h
 | .hdr,x,y,f,cs,h,hr=>by simp[Kd.upd1] at h

def Kd.updL (k:Kd) (x:k.T) (f:Nat):List MV->Option k.T
  | []=>some x
  | v::l=>match k.upd1 x f v with
    | some y=>k.updL y (f+1) l
    | none=>none

theorem QO {ρ:Nat->Hd} {m:Mem} {k:Kd}:∀{l:List MV} {us:List Value},CvL ρ m l us->∀(x y:k.T) (f:Nat) (cs:List Value),k.updL x f l=some y->k.R m x cs →
  (l=[]\/f+l.length<=k.n)/\k.R m y (cs.take f++(us++cs.drop (f+us.length)))
 | [],us,hl,x,y,f,cs,h,hr=>by
  simp only[CvL] at hl;subst hl
  simp only[Kd.updL,Option.some.injEq] at h;subst h
  refine ⟨.inl rfl,?_⟩
  simpa using hr
 | v::l,us,⟨u,vs,hu,hv,hl⟩,x,y,f,cs,h,hr=>by
  subst hu
  unfold Kd.updL at h
  split at h
  ·rename_i z hz
   obtain ⟨g1,g2⟩:=QI hv k x z f cs hz hr
   have hlen:=Kd.R.len _ _ _ hr
   obtain ⟨g3,g4⟩:=QO hl z y (f+1) _ h g2
   refine ⟨.inr ?_,?_⟩
   ·rcases g3 with rfl|g3
    ·simp;omega
    ·simp only[List.length_cons];omega
   ·have e1:(cs.set f u).take (f+1)=cs.take f++[u]:=by
     rw[List.take_succ_eq_append_getElem (by simp;omega),List.getElem_set_self,List.take_set_of_le (Nat.le_refl _)]
    have e2:(cs.set f u).drop (f+1+vs.length)=cs.drop (f+(vs.length+1)):=by
     rw[List.drop_set_of_lt (by omega)];congr 1;omega
    rw[e1,e2,List.append_assoc] at g4
    exact g4
  ·cases h
end
section

def Zp (k:Kd):Nat->List (Nat×MV)->Option (List k.T)
  | _,[]=>some []
  | n,(i,v)::l=>if i==n&&(mvcells v).length==k.n&&solid v then
      (match k.updL k.df 0 (mvcells v),Zp k (n+1) l with|some y,some ys=>some (y::ys)|_,_=>none) else none

def hdM (sz:Nat):Nat->List (Nat×MV)->Option (List MV)
  | _,[]=>some []
  | n,(i,v)::l=>if i==n&&(mvcells v).length==sz&&solid v then (match hdM sz (n+1) l with|some r=>some (mvcells v++r)|none=>none) else none

def JV (L:List (Nat×Option MObj)) (k:Kd):MV->Option (List k.T)
  | .nils=>some []
  | .im (.slice e) l=>if h:e=k then some (h▸l) else none
  | .sl key=>match ww L key with
    | some (.rows e l)=>if h:e=k then some (h▸l) else none
    | _=>none
  | .hd key c=>match ww L key with
    | some (.arr e n l)=>if h:e=k then (if c==n then some (h▸l) else none) else none
    | _=>none
  | _=>none

def sbytes (s:ByteArray):Li:=s.data.toList.map fun b=>(b.toNat:Int)
theorem vY (s:ByteArray):(sbytes s).length=s.size:=by unfold sbytes;rw[List.length_map];rfl
def UB (L:List (Nat×Option MObj)) (k:Kd) (x:MV):Option (List k.T) :=
  match x with
  | .str s=>if h:k=.int .u8 then some (h▸sbytes s) else none
  | x=>JV L k x

def VU (L:List (Nat×Option MObj)) (k:Kd) (x:MV):Option (List k.T×Prop) :=
  match x with
  | .sp key n=>match ww L key with
    | some (.rows e l)=>if h:e=k then some ((h▸l:List k.T).take n,n<=l.length) else none
    | _=>none
  | x=>match JV L k x with|some ys=>some (ys,True)|none=>none

def cpy {α:Type} (lo:Nat) (xs ys:List α):List α:=xs.take lo++(ys.take (xs.length-lo)++xs.drop (lo+ys.length))
def G5:MV->Option (Nat×Nat)
  | .sl key=>some (key,0)
  | .sv key lo=>some (key,lo)
  | _=>none
def dcond:MV->Nat->Prop
  | .sv _ lo,n=>lo<n
  | _,_=>True

def V9 (j f:Nat):(k:Kd)->List k.T->MV->Option MObj
  | .slice e,xs,.sl q=>if f==0 then some (.rr false e xs (some (j,.sl q))) else none
  | _,_,_=>none
theorem Um {j f:Nat}:∀{k:Kd} {xs:List k.T} {v:MV} {o:MObj},V9 j f k xs v=some o->∃(e:Kd) (xs':List (List e.T)) (q:Nat),(⟨k,xs⟩:Sigma fun k:Kd=>List k.T)=⟨.slice e,xs'⟩/\v=.sl q/\f=0/\o=.rr false e xs' (some (j,.sl q))
 | .slice e,xs,.sl q,o,h=>by
  simp only[V9] at h
  split at h
  ·rename_i hf
   simp only[Option.some.injEq] at h
   exact ⟨e,xs,q,rfl,rfl,by simpa using hf,h.symm⟩
  ·cases h
def Kc:MV->Bool
  | .p _ _=>true
  | .nilp=>true
  | _=>false
def Mw:List MV->Bool
  | [.nilp]=>true
  | _=>false
def qE:Nat->List MV->Bool
  | 0,[]=>true
  | n+1,.nilp::l=>qE n l
  | _,_=>false
theorem Qn:∀{n:Nat} {l:List MV},qE n l=true->l=List.replicate n .nilp
 | 0,[],_=>rfl
 | n+1,.nilp::l,h=>by
  simp only[qE] at h
  rw[List.replicate_succ,<-Qn h]
 | 0,_::_,h=>by simp[qE] at h
 | n+1,[],h=>by simp[qE] at h
 | n+1,.int _ _::l,h=>by simp[qE] at h
 | n+1,.bool _::l,h=>by simp[qE] at h
 | n+1,.str _::l,h=>by simp[qE] at h
 | n+1,.nils::l,h=>by simp[qE] at h
 | n+1,.nilf::l,h=>by simp[qE] at h
 | n+1,.nili::l,h=>by simp[qE] at h
 | n+1,.nilm::l,h=>by simp[qE] at h
 | n+1,.p _ _::l,h=>by simp[qE] at h
 | n+1,.pe _ _ _::l,h=>by simp[qE] at h
 | n+1,.im _ _::l,h=>by simp[qE] at h
 | n+1,.pim _ _::l,h=>by simp[qE] at h
 | n+1,.sl _::l,h=>by simp[qE] at h
 | n+1,.mp _::l,h=>by simp[qE] at h
 | n+1,.hd _ _::l,h=>by simp[qE] at h
 | n+1,.sv _ _::l,h=>by simp[qE] at h
 | n+1,.sp _ _::l,h=>by simp[qE] at h
 | n+1,.pf _ _ _::l,h=>by simp[qE] at h
 | n+1,.agg _::l,h=>by simp[qE] at h
 | n+1,.tup _::l,h=>by simp[qE] at h
 | n+1,.fn _ _::l,h=>by simp[qE] at h
 | n+1,.ifc _ _::l,h=>by simp[qE] at h
 | n+1,.bm _ _::l,h=>by simp[qE] at h
 | n+1,.cnd _ _::l,h=>by simp[qE] at h
 | n+1,.raw _::l,h=>by simp[qE] at h
def uy (tab:Nat->Option TI) (L:List (Nat×Option MObj)) (i:TI) (d n:Nat):MV->Option (Nat×List MV)
  | .hd q c=>match ww L q,tab i.elem with
    | some (.cells ys),some ie=>if ys.all Kc&&ys.length==c*i.esz&&decide (1<=c)&&i.slc&&decide (1<=i.esz)&&qE i.esz ie.zero&&decide (1<=ie.bytes)&&decide ((n+c)*ie.bytes<=70368744177664)&&!(q==d) then some (c,ys) else none
    | _,_=>none
  | _=>none
def H8 (h:Option (Nat×MV)) (j:Nat):Prop:=match h with|some (p,_)=>j=p|none=>True
theorem Ga {h:Option (Nat×MV)} {j:Nat} (hp:H8 h j):hole h=none\/hole h=some j:=by
 cases h with
 | none=>exact .inl rfl
 | some p=>exact .inr (by have:j=p.1:=hp;rw[this];rfl)
def Xt:List MV->Bool
  | [.nils]=>true
  | _=>false
theorem KJ {l:List MV} (h:Xt l=true):l=[.nils]:=by
 unfold Xt at h
 split at h
 ·rfl
 ·cases h

def Hi (tab:Nat->Option TI) (L:List (Nat×Option MObj)) (i:TI) (e:Kd):MV->Option (Nat×Nat×List e.T×Nat)
  | .hd t c=>match ww L t,tab i.elem with
    | some (.cells [.sl q]),some ie=>(match ww L q with
      | some (.rows e' ys)=>if he:e'=e then (if c==1&&i.slc&&i.esz==1&&Xt ie.zero&&decide (1<=ie.bytes) then some (t,q,he▸ys,ie.bytes) else none) else none
      | _=>none)
    | _,_=>none
  | _=>none

def KK (ik:IntKind):List MV->Option Li
  | []=>some []
  | .int k x::l=>if k=ik then (match KK ik l with|some r=>some (x::r)|none=>none) else none
  | _=>none
theorem Zb {ik:IntKind}:∀{l:List MV} {xs:Li},KK ik l=some xs->l=xs.map (MV.int ik)
 | [],xs,h=>by simp only[KK,Option.some.injEq] at h;subst h;rfl
 | .int k x::l,xs,h=>by
  simp only[KK] at h
  split at h
  ·rename_i hk
   subst hk
   split at h
   ·rename_i r hr
    simp only[Option.some.injEq] at h;subst h
    rw[Zb hr];rfl
   ·cases h
  ·cases h

def gG (L:List (Nat×Option MObj)) (k:Kd) (q:Nat):Option (List k.T):=match ww L q with
  | some (.rows e ys)=>if h:e=k then some (h▸ys) else none
  | _=>none
theorem G4 {L:List (Nat×Option MObj)} {k:Kd} {q:Nat} {ys:List k.T} (h:gG L k q=some ys):ww L q=some (.rows k ys):=by
 unfold gG at h
 split at h
 ·rename_i e zs hz
  split at h
  ·rename_i he
   subst he
   simp only[Option.some.injEq] at h;subst h;exact hz
  ·cases h
 ·cases h

def vm (tab:Nat->Option TI) (A:List (Nat×MV)) (L:List (Nat×Option MObj)) (g:Option Bool) (d:Nat):Op->Option (MV×List (Nat×Option MObj)×Bool×Prop)
  | .store T x v=>match tab T,opg A g x,opg A g v with
    | some i,some (.p key off,C),some (v',D)=>(match ww L key with
      | some (.cells cs)=>if (mvcells v').length==i.size&&solid v'&&(mvcells v').all cellm&&decide (off+i.size<=cs.length) then
          some (.nilp,[(key,some (.cells (cs.take off++(mvcells v'++cs.drop (off+i.size)))))],false,C/\D) else none
      | some (.arr (.int ik) n xs)=>(match v' with
        | .int k' y=>if k'=ik/\i.size=1 then some (.nilp,[(key,some (.arr (.int ik) n (xs.set off y)))],false,C/\D/\off<n) else none
        | v'=>(match KK ik (mvcells v') with|some ys=>if off==0&&ys.length==n&&(mvcells v').length==i.size&&solid v'&&(mvcells v').all cellm then some (.nilp,[(key,some (.arr (.int ik) n ys))],false,C/\D) else none|none=>none))
      | some (.bld T' _)=>(match v' with|.sl q=>if off==1&&i.size==1 then some (.nilp,[(key,some (.bld T' (some q)))],false,C/\D) else none|_=>none)
      | _=>none)
    | some i,some (.pe key j f,C),some (v',D)=>(match ww L key with
      | some (.rows k xs)=>if (mvcells v').length==i.size&&solid v'&&(mvcells v').all cellm&&decide (1<=i.size) then
          (match k.updL (k.nth xs j) f (mvcells v') with
          | some y=>some (.nilp,[(key,some (.rows k (xs.set j y)))],false,C/\D/\j<xs.length)
          | none=>(match V9 j f k xs v' with
            | some o=>some (.nilp,[(key,some o)],false,C/\D/\j<xs.length)
            | none=>none)) else none
      | some (.rr true e xss h)=>(match v' with
        | .sl q=>(match ww L q with
          | some (.rows e' ys)=>if he:e'=e then (if f==0&&i.size==1 then some (.nilp,[(key,some (.rr true e (xss.set j (he▸ys)) none)),(q,none)],false,C/\D/\j<xss.length/\H8 h j) else none) else none
          | _=>none)
        | _=>none)
      | _=>none)
    | some i,some (.pf key o j,C),some (v',D)=>(match ww L key with
      | some (.foc pre cs post)=>if (mvcells v').length==i.size&&solid v'&&(mvcells v').all cellm&&decide (j+i.size<=cs.length) then
          some (.nilp,[(key,some (.foc pre (cs.take j++(mvcells v'++cs.drop (j+i.size))) post))],false,C/\D/\o=pre.length) else none
      | _=>none)
    | _,_,_=>none
  | .box _ x=>match opg A g x with
    | some (x',C)=>if solid x' then some (.p d 0,[(d,some (.cells (mvcells x')))],true,C) else none
    | none=>none
  | .alloc T=>match tab T with
    | some i=>if i.bld then (match i.zero with
      | [.nilp,.nils]=>some (.p d 0,[(d,some (.bld T none))],true,True)
      | _=>none) else some (.p d 0,[(d,some (.cells i.zero))],true,True)
    | none=>none
  | .buildSlice T len parts=>match tab T,yP A g parts.toList with
    | some i,some (ps,C)=>(match i.ek with
      | some k=>(match Zp k 0 ps with
        | some xs=>if len==ps.length&&decide (len*i.esz<=16777216)&&decide (1<=i.esz) then some (.sl d,[(d,some (.rows k xs))],true,C) else none
        | none=>none)
      | none=>if i.slc&&(tab i.elem).isSome&&len==ps.length&&decide (len*i.esz<=16777216)&&decide (1<=i.esz) then (match hdM i.esz 0 ps with|some cs=>some (.hd d len,[(d,some (.cells cs))],true,C)|none=>none) else none)
    | _,_=>none
  | .makeSlice T n c=>match tab T,opg A g n,opg A g c with
    | some i,some (.int _ n',C),some (.int _ c',D)=>(match i.ek with
      | some k=>(match i.rr with
        | some e=>(match tab i.elem with
          | some ie=>if decide (1<=i.eb)&&decide (1<=i.esz)&&decide (k=.slice e)&&Xt ie.zero then some (.sl d,[(d,some (.rr true e (List.replicate n'.toNat []) none))],true,C/\D/\0<=n'/\n'<=c'/\c'*(i.eb:Int)<=140737488355328) else none
          | none=>none)
        | none=>if decide (1<=i.eb)&&decide (1<=i.esz) then some (.sl d,[(d,some (.rows k (List.replicate n'.toNat k.df)))],true,C/\D/\0<=n'/\n'<=c'/\c'*(i.eb:Int)<=140737488355328) else none)
      | none=>(match tab i.elem with
        | some ie=>if i.slc&&decide (n'=c')&&decide (0<=n')&&decide (n'.toNat*ie.bytes<=16777216)&&decide (1<=ie.bytes)&&decide (1<=i.esz)&&ie.zero.length==i.esz then some (.hd d n'.toNat,[(d,some (.cells (List.replicate n'.toNat ie.zero).flatten))],true,C/\D) else none
        | none=>none))
    | _,_,_=>none
  | .call { callee:=.builtin .append,args,argTypes }=>match argTypes[0]?,opgs A g args.toList with
    | some T,some ([s,x],C)=>(match tab T with
      | some i=>(match s with
        | .nils=>(match i.ek with
          | some k=>(match UB L k x with
            | some ys=>if decide (1<=i.eb)&&(argTypes[1]? == some T||argTypes[1]?.any fun t=>(tab t).any (fun j=>j.slc||j.tag==7)) then some (.sl d,[(d,some (.rows k ys))],true,C/\(ys.length:Int)*(i.eb:Int)<=70368744177664) else none
            | none=>none)
          | none=>(match uy tab L i d 0 x with
            | some (_,ys)=>if argTypes[1]? == some T||argTypes[1]?.any fun t=>(tab t).any (fun j=>j.slc||j.tag==7) then some (.sl d,[(d,some (.hrow i.esz ys))],true,C) else none
            | none=>none))
        | .sl key=>(match ww L key,i.ek with
          | some (.hrow s cs),none=>(match uy tab L i d (cs.length/s) x with
            | some (_,ys)=>if s==i.esz&&(argTypes[1]? == some T||argTypes[1]?.any fun t=>(tab t).any (fun j=>j.slc||j.tag==7))&&cs.all Kc&&!(key==d) then some (.sl d,[(d,some (.hrow s (cs++ys))),(key,none)],true,C) else none
            | none=>none)
          | some (.rows k xs),some k'=>(match UB L k x with
            | some ys=>if decide (1<=i.eb)&&decide (k=k')&&(argTypes[1]? == some T||argTypes[1]?.any fun t=>(tab t).any (fun j=>j.slc||j.tag==7)) then
                some (.sl d,[(d,some (.rows k (xs++ys))),(key,none)],true,C/\((xs.length:Int)+(ys.length:Int))*(i.eb:Int)<=70368744177664) else none
            | none=>(match x,argTypes[1]? with
              | .int _ n,some t=>if decide (1<=i.eb)&&decide (1<=i.esz)&&decide (k=k')&&(tab t).any (fun j=>j.ik.isSome) then
                  some (.sl d,[(d,some (.rows k (xs++List.replicate n.toNat k.df))),(key,none)],true,C/\0<=n/\((xs.length:Int)+n)*(i.eb:Int)<=70368744177664) else none
              | .sp q c,_=>(match gG L k q with
                | some ys=>if decide (1<=i.eb)&&decide (k=k')&&(argTypes[1]? == some T||argTypes[1]?.any fun t=>(tab t).any (fun j=>j.slc||j.tag==7)) then
                    some (.sl d,[(d,some (.rows k (xs++ys.take c))),(key,none)],true,C/\c<=ys.length/\0<c/\((xs.length:Int)+(c:Int))*(i.eb:Int)<=70368744177664) else none
                | none=>none)
              | _,_=>none))
          | some (.brw e k xs),some k'=>(match UB L k x with
            | some ys=>if decide (1<=i.eb)&&decide (k=k')&&decide (i.elem=e)&&(argTypes[1]? == some T||argTypes[1]?.any fun t=>(tab t).any (fun j=>j.slc||j.tag==7)) then
                some (.sl d,[(d,some (.brw e k (xs++ys))),(key,none)],true,C/\((xs.length:Int)+(ys.length:Int))*(i.eb:Int)<=70368744177664) else none
            | none=>none)
          | some (.rr true e xss none),some _=>(match Hi tab L i e x with
            | some (t,q,ys,n)=>if argTypes[1]? == some T||argTypes[1]?.any fun t=>(tab t).any (fun j=>j.slc||j.tag==7) then
                some (.sl d,[(d,some (.rr true e (xss++[ys]) none)),(key,none),(q,none),(t,none)],true,C/\((xss.length:Int)+1)*(n:Int)<=70368744177664) else none
            | none=>none)
          | _,_=>none)
        | _=>none)
      | none=>none)
    | _,_=>none
  | .call { callee:=.builtin .copy,args,argTypes }=>match argTypes[0]?,opgs A g args.toList with
    | some T,some ([.hd key c,x],C)=>(match tab T,ww L key with
      | some i,some (.arr k n xs)=>(match VU L k x with
        | some (ys,E)=>if decide (i.ek=some k)&&c==n then some (.int .i64 ((min ys.length n:Nat):Int),[(key,some (.arr k n (cpy 0 xs ys)))],false,C/\E) else none
        | none=>none)
      | _,_=>none)
    | some T,some ([s,x],C)=>(match tab T,G5 s with
      | some i,some (key,lo)=>(match ww L key,i.ek with
        | some (.rows k xs),some k'=>(match VU L k x with
          | some (ys,E)=>if decide (k=k') then some (.int .i64 ((min ys.length (xs.length-lo):Nat):Int),[(key,some (.rows k (cpy lo xs ys)))],false,C/\dcond s xs.length/\E) else none
          | none=>none)
        | _,_=>none)
      | _,_=>none)
    | _,_=>none
  | .makeMap T none=>match tab T with
    | some i=>if i.mp then some (.mp d,[(d,some .emp)],true,True) else none
    | none=>none
  | .call { callee:=.builtin .delete,args,argTypes }=>match argTypes[0]?,opgs A g args.toList with
    | some T,some ([.mp key,.int _ _],C)=>(match tab T,ww L key with
      | some i,some .emp=>if i.mp then some (.tup [],[(key,some .emp)],false,C) else none
      | _,_=>none)
    | _,_=>none
  | .call { callee:=.builtin .clear,args,argTypes }=>match argTypes[0]?,opgs A g args.toList with
    | some T,some ([.sl key],C)=>(match tab T with
      | some i=>(match ww L key,i.ek with
        | some (.rows k xs),some k'=>if decide (k=k')&&decide (1<=i.esz) then some (.tup [],[(key,some (.rows k (List.replicate xs.length k.df)))],false,C) else none
        | _,_=>none)
      | none=>none)
    | some T,some ([.sv key lo],C)=>(match tab T with
      | some i=>(match ww L key,i.ek with
        | some (.rows k xs),some k'=>if decide (k=k')&&decide (1<=i.esz) then some (.tup [],[(key,some (.rows k (xs.take lo++List.replicate (xs.length-lo) k.df)))],false,C/\lo<xs.length) else none
        | _,_=>none)
      | none=>none)
    | _,_=>none
  | .load T x=>match tab T,opg A g x with
    | some i,some (.pe key j f,C)=>(match ww L key with
      | some (.rr true e xss none)=>if f==0&&i.size==1&&!i.agg&&!(d==key) then some (.sl d,[(d,some (.rows e (xss.getD j []))),(key,some (.rr true e xss (some (j,.sl d))))],true,C/\j<xss.length) else none
      | _=>none)
    | _,_=>none
  | _=>none

def valued:MV->Bool
  | .nilp=>false
  | _=>true
def okB (fr a:Bool) (mv:MV):Bool:=if fr then a else valued mv
theorem U4 {fr a:Bool} {mv:MV} (h:okB fr a mv=true) (e:fr=true):a=true:=by unfold okB at h;rw[e,if_pos rfl] at h;exact h
theorem uf {fr a:Bool} {mv:MV} (h:okB fr a mv=true) (e:fr=false):valued mv=true:=by unfold okB at h;rw[e,if_neg (by decide)] at h;exact h

def ja (P:Program) (X:Nat->Prop) (ρ:Nat->Hd) (m:Mem) (L:Nat->Option MObj) (w:World) (d:Nat) (s:Sem Next) (mv:MV) (U:List (Nat×Option MObj)) (fr:Bool):Prop :=
  ∃nx w' ρ',s.run P w=.ok nx w'/\((∃v,nx=.value v/\Cv ρ' m mv v)\/(nx=.skip/\fr=false/\mv=.nilp))/\Hp X ρ' m (qQ U L) w'/\Nx X m m w w'/\(∀k,k≠d->ρ' k=ρ k)/\(fr=false->ρ'=ρ)

theorem Wr.nx {X:Nat->Prop} {m:Mem} {w w':World} {b:Nat} {o:Obj} (h:Wr w w' b o) (hX:¬X b):Nx X m m w w' :=
 ⟨Mle.refl m,fun _ _=>rfl,fun b' hb'=>h.un b' (fun e=>hX (e▸hb')),Nat.le_of_eq h.size.symm,h.os,h.out,h.tape⟩

theorem qT (key:Nat) (o:Option MObj) (L:Nat->Option MObj):qQ [(key,o)] L=fun k=>if key==k then o else L k:=rfl

theorem ZT {P:Program} {X:Nat->Prop} {ρ:Nat->Hd} {m:Mem} {L:Nat->Option MObj} {w:World} (h:Hp X ρ m L w) {T:Nat} {i:TI} (ht:TOK P T i) {key off:Nat} {cs:List MV} (hk:L key=some (.cells cs)) {x:MV} {v:Value}
  (hv:Cv ρ m x v) (hn:(mvcells x).length=i.size) (hs:solid x=true) (hc:(mvcells x).all cellm=true) (ho:off+i.size<=cs.length) (d:Nat) :
  ja P X ρ m L w d (do Instr.storeAt T (.pointer (some ⟨(ρ key).blk,off,none⟩)) v;pure .skip) .nilp [(key,some (.cells (cs.take off++(mvcells x++cs.drop (off+i.size)))))] false:=by
 obtain ⟨hnil,vs,T',hb,hl⟩:=h.obj _ _ hk
 have hcv:=xN hs hv
 have hlen:=CvL.length hcv
 have hvl:=CvL.length hl
 obtain ⟨w',h1,h2⟩:=ju (P:=P) (off:=off) ht hb (v:=v) (by rw[<-Array.length_toList,hlen,hn]) (by omega) (yr hc hcv)
 refine ⟨.skip,w',ρ,?_,.inr ⟨rfl,rfl,rfl⟩,?_,?_,fun _ _=>rfl,fun _=>rfl⟩
 ·rw[wc,h1];rfl
 ·rw[qT]
  refine h.turn key _ (fun b=>b=(ρ key).blk) (fun _ _=>rfl) (.inl rfl) (fun b _ hb=>h2.un b hb) (Nat.le_of_eq h2.size.symm) (fun b _ hb=>hb▸h.djm key _ _ hk ⟨hnil,rfl⟩) (fun k o b hne hk' hf hb=>?_) (fun o ho'=>?_)
  ·exact hne (h.dj k o key _ b hk' hk hf ⟨hnil,hb⟩)
  ·simp only[Option.some.injEq] at ho';subst ho'
   refine ⟨⟨hnil,_,T',h2.at_,?_⟩,fun b hf=>⟨h.djm key _ _ hk hf,h.djX key _ _ hk hf,fun k o' hne hk' hf'=>hne (h.dj k o' key _ b hk' hk hf' hf)⟩⟩
   exact CvL.append (CvL.take off hl) (CvL.append hcv (CvL.drop _ hl))
 ·exact h2.nx (h.djX key _ _ hk ⟨hnil,rfl⟩)

theorem Z1 {P:Program} {X:Nat->Prop} {ρ:Nat->Hd} {m:Mem} {L:Nat->Option MObj} {w:World} (h:Hp X ρ m L w) {T:Nat} {i:TI} (ht:TOK P T i) {key j f:Nat} {k:Kd} {xs:List k.T} (hk:L key=some (.rows k xs)) {x:MV} {v:Value}
  (hv:Cv ρ m x v) (hn:(mvcells x).length=i.size) (hs:solid x=true) (hc:(mvcells x).all cellm=true) (hj:j<xs.length) (h1s:1<=i.size) {y:k.T} (hy:k.updL (k.nth xs j) f (mvcells x)=some y) (d:Nat) :
  ja P X ρ m L w d (do Instr.storeAt T (.pointer (some ⟨(ρ key).blk,j*(ρ key).sz+f,none⟩)) v;pure .skip) .nilp [(key,some (.rows k (xs.set j y)))] false:=by
 obtain ⟨g0,g1,g2⟩:=h.obj _ _ hk
 rcases g2 with ⟨_,rfl⟩|⟨hnil,hcap,vs,T',hb,hvl,hel⟩
 ·simp at hj
 have hcv:=xN hs hv
 have hlen:=CvL.length hcv
 have hr:=hel j hj
 have hnth:k.nth xs j=xs[j]:=by unfold Kd.nth;rw[List.getD_eq_getElem?_getD,List.getElem?_eq_getElem hj];rfl
 rw[<-hnth] at hr
 obtain ⟨p1,p2⟩:=QO hcv _ y f _ hy hr
 have hrl:=Kd.R.len _ _ _ hr
 have hjn:(j+1)*k.n<=(ρ key).cap*k.n:=Nat.mul_le_mul_right _ (by omega)
 rw[Nat.add_mul,Nat.one_mul] at hjn
 have hfn:f+i.size<=k.n:=by
  rcases p1 with p1|p1
  ·rw[p1] at hn;simp at hn;omega
  ·omega
 rw[g1]
 obtain ⟨w',h1,h2⟩:=ju (P:=P) (off:=j*k.n+f) ht hb (v:=v) (by rw[<-Array.length_toList,hlen,hn]) (by omega) (yr hc hcv)
 refine ⟨.skip,w',ρ,?_,.inr ⟨rfl,rfl,rfl⟩,?_,?_,fun _ _=>rfl,fun _=>rfl⟩
 ·rw[wc,h1];rfl
 ·rw[qT]
  refine h.turn key _ (fun b=>b=(ρ key).blk) (fun _ _=>rfl) (.inl rfl) (fun b _ hb=>h2.un b hb) (Nat.le_of_eq h2.size.symm) (fun b _ hb=>hb▸h.djm key _ _ hk ⟨hnil,rfl⟩) (fun k' o b hne hk' hf hb=>?_) (fun o ho'=>?_)
  ·exact hne (h.dj k' o key _ b hk' hk hf ⟨hnil,hb⟩)
  ·simp only[Option.some.injEq] at ho';subst ho'
   refine ⟨⟨by simpa using g0,g1,.inr ⟨hnil,by simpa using hcap,_,T',h2.at_,?_,?_⟩⟩,fun b hf=>⟨h.djm key _ _ hk hf,h.djX key _ _ hk hf,fun k' o' hne hk' hf'=>hne (h.dj k' o' key _ b hk' hk hf' hf)⟩⟩
   ·simp[hlen,hn];omega
   ·intro q hq
    simp only[List.length_set] at hq
    by_cases e:q=j
    ·subst e
     rw[List.getElem_set_self]
     have e1:(vs.take (q*k.n+f)++(v.cells.toList++vs.drop (q*k.n+f+i.size))).drop (q*k.n)=(vs.drop (q*k.n)).take f++(v.cells.toList++vs.drop (q*k.n+f+i.size)):=by
      rw[List.drop_append_of_le_length (by simp;omega),List.drop_take]
      congr 2;omega
     rw[e1]
     have e2:((vs.drop (q*k.n)).take k.n).take f++(v.cells.toList++((vs.drop (q*k.n)).take k.n).drop (f+v.cells.toList.length))=((vs.drop (q*k.n)).take f++(v.cells.toList++vs.drop (q*k.n+f+i.size))).take k.n:=by
      rw[List.take_take,Nat.min_eq_left (by omega)]
      rw[List.take_append,List.take_of_length_le (l:=(vs.drop (q*k.n)).take f) (by simp;omega),List.take_append,List.take_of_length_le (l:=v.cells.toList) (by simp[hlen,hn] at *;omega)]
      congr 2
      rw[List.drop_take,List.drop_drop]
      have hl1:((vs.drop (q*k.n)).take f).length=f:=by simp;omega
      have hl2:v.cells.toList.length=i.size:=by rw[hlen,hn]
      rw[hl1,hl2]
      congr 1;· omega
      ·congr 1;omega
     rw[<-e2];exact p2
    ·rw[List.getElem_set_ne (fun e'=>e e'.symm)]
     have hq':=hel q hq
     have hqn:(q+1)*k.n<=(ρ key).cap*k.n:=Nat.mul_le_mul_right _ (by omega)
     rw[Nat.add_mul,Nat.one_mul] at hqn
     have e3:((vs.take (j*k.n+f)++(v.cells.toList++vs.drop (j*k.n+f+i.size))).drop (q*k.n)).take k.n=(vs.drop (q*k.n)).take k.n:=by
      have hl2:v.cells.toList.length=i.size:=by rw[hlen,hn]
      rcases Nat.lt_or_ge q j with hlt|hge
      ·have:(q+1)*k.n<=j*k.n:=Nat.mul_le_mul_right _ hlt
       rw[Nat.add_mul,Nat.one_mul] at this
       rw[List.drop_append_of_le_length (by simp;omega),List.take_append_of_le_length (by simp;omega),List.drop_take,List.take_take,Nat.min_eq_left (by omega)]
      ·have:(j+1)*k.n<=q*k.n:=Nat.mul_le_mul_right _ (by omega)
       rw[Nat.add_mul,Nat.one_mul] at this
       have hlt:(vs.take (j*k.n+f)).length=j*k.n+f:=by rw[List.length_take];omega
       rw[List.drop_append,List.drop_of_length_le (by rw[hlt];omega),List.nil_append,List.drop_append,List.drop_of_length_le (by rw[hlt,hl2];omega),List.nil_append,List.drop_drop]
       congr 2
       rw[hlt,hl2];omega
     rw[e3];exact hq'
 ·exact h2.nx (h.djX key _ _ hk ⟨hnil,rfl⟩)
end
end Go.Fo
