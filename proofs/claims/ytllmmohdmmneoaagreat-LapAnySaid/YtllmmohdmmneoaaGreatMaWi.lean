/- Lines and steps are found: they come to results. -/
import Derived.Test.YtllmmohdmmneoaaGreatMaWh
import Derived.Test.YtllmmohdmmneoaaGreatMaWg
namespace Go.Fo
set_option maxRecDepth 6000
def Fgo (f:FS) (k:Nat) (r:Int×Int×Int×Int):Prop:=∃f',Fok f'/\f'.rd<=f.rd+k/\r=frep f'
section
variable {n:Nat} {g:Nat->Int} {x y:Int}
theorem uX (hg:B01 g) (hn:n<=1000000) (x y w:Int) {t:Li} (h:Tb t) {s:FS} (hf:Fok s) (hr:s.rd+16<=90000000) {k:Nat} (hk:At s t k) :
  ku 100000 t w s.lo s.hi 0 s.rd s.va x y (pf n g)=some ((k:Int),0,frep (s.got (eb n g) t k)):=wr (Us hg hn x y h hf hr hk).1 rfl
theorem Wj (hg:B01 g) (hn:n<=1000000) (x y w:Int) {t:Li} (h:Tb t) {s:FS} (hf:Fok s) (hr:s.rd+16<=90000000) :
  Ok (fun r=>0<=r.1/\r.1<(t.length:Int)/\r.2.1=0/\Fgo s 16 r.2.2) (ku 100000 t w s.lo s.hi 0 s.rd s.va x y (pf n g)):=by
 obtain ⟨k,hk⟩:=HQ h hf
 obtain ⟨_,h2,h3⟩:=Us hg hn x y h hf hr hk
 exact ⟨_,uX hg hn x y w h hf hr hk,by show (0:Int)<=(k:Int);omega,by show (k:Int)<_;have:=hk.1;omega,rfl,_,h2,h3,rfl⟩
theorem Gb (hg:B01 g) (hn:n<=1000000) (v l:Int):∀(j m:Nat) (s:FS),j<m->1<=j->j<=15->Fok s->s.rd+16*j<=90000000 →
  Ok (fun z=>match z with|.inl (c,r)=>(0:Int)<=c/\c<=14/\Fgo s (16*j) r|.inr (_,e,r)=>e=70/\Fgo s (16*j) r) (wB.l1 100000 v l 0 x y (pf n g) m ((15-j:Nat):Int) s.lo s.hi s.rd s.va):=by
 intro j
 induction j with
 | zero=>intro _ _ _ h;omega
 | succ j ih =>
  intro m s hm _ hj hf hr
  obtain ⟨m,rfl⟩:∃q,m=q+1:=⟨m-1,by omega⟩
  show Ok _ (wB.r1 100000 v l 0 x y (pf n g) (wB.l1 100000 v l 0 x y (pf n g) m) ((15-(j+1):Nat):Int) s.lo s.hi s.rd s.va)
  unfold wB.r1
  refine Ok.bind (Q:=fun _=>True) (Ok.ite (fun _=>Ok.some trivial) (fun _=>Ok.some trivial)) (fun w _=>?_)
  refine Ok.bind (Ok.is (show qC 100000=some evn from rfl)) ?_
  rintro _ rfl
  refine Ok.bind (Wj hg hn x y w xZ hf (by omega)) ?_
  rintro ⟨k,e,r⟩ ⟨k0,k1,ke,f',hf',hrd,hrr⟩
  have k1:k<2:=k1
  have k0:0<=k:=k0
  have ke:e=0:=ke
  have hrr:r=frep f':=hrr
  subst ke hrr
  refine Ok.ite (fun c=>by cases c) (fun _=>?_)
  refine Ok.ite (fun _=>Ok.some ⟨by show (0:Int)<=_;omega,by show ((15-(j+1):Nat):Int)<=14;omega,f',hf',by omega,rfl⟩) (fun _=>?_)
  dsimp only[frep]
  rw[kw1 (by omega) (by omega)]
  refine Ok.ite (fun _=>Ok.some ⟨rfl,f',hf',by omega,rfl⟩) (fun c=>?_)
  have c:((15-(j+1):Nat):Int)+1≠15:=by simpa using c
  have hs:=ih m f' (by omega) (by omega) (by omega) hf' (by omega)
  rw[show ((15-(j+1):Nat):Int)+1=((15-j:Nat):Int) by omega]
  refine hs.mono ?_
  intro z hz
  cases z with
  | inl z =>
   obtain ⟨c,r⟩:=z
   obtain ⟨a,b,f2,q1,q2,q3⟩:=hz
   exact ⟨a,b,f2,q1,by omega,q3⟩
  | inr z =>
   obtain ⟨c,e,r⟩:=z
   obtain ⟨a,f2,q1,q2,q3⟩:=hz
   exact ⟨a,f2,q1,by omega,q3⟩
theorem VR (hg:B01 g) (hn:n<=1000000) (v:Int):∀(j m:Nat) (o:Int) (s:FS),j<m->j<=14->1<=o->o<2^(15-j)->Fok s->s.rd+16*j<=90000000 →
  Ok (fun z=>match z with|.inl (c,r)=>(1:Int)<=c/\c<32768/\Fgo s (16*j) r|.inr _=>False) (wB.l0 100000 v 0 x y (pf n g) m o ((j:Int)-1) s.lo s.hi s.rd s.va):=by
 intro j
 induction j with
 | zero =>
  intro m o s hm _ o0 o1 hf hr
  obtain ⟨m,rfl⟩:∃q,m=q+1:=⟨m-1,by omega⟩
  show Ok _ (wB.r0 100000 v 0 x y (pf n g) (wB.l0 100000 v 0 x y (pf n g) m) o (((0:Nat):Int)-1) s.lo s.hi s.rd s.va)
  unfold wB.r0
  refine Ok.ite (fun c=>by have:=dt c;omega) (fun _=>Ok.some ⟨o0,?_,s,hf,Nat.le_refl _,rfl⟩)
  have e:(2:Int)^(15-0)=32768:=by decide
  show o<32768
  omega
 | succ j ih =>
  intro m o s hm hj o0 o1 hf hr
  obtain ⟨m,rfl⟩:∃q,m=q+1:=⟨m-1,by omega⟩
  show Ok _ (wB.r0 100000 v 0 x y (pf n g) (wB.l0 100000 v 0 x y (pf n g) m) o (((j+1:Nat):Int)-1) s.lo s.hi s.rd s.va)
  unfold wB.r0
  refine Ok.ite (fun _=>?_) (fun c=>by have:=df c;omega)
  refine Ok.bind (Ok.is (show qC 100000=some evn from rfl)) ?_
  rintro _ rfl
  refine Ok.gd (by omega) (Ok.bind (Wj hg hn x y _ xZ hf (by omega)) ?_)
  rintro ⟨k,e,r⟩ ⟨k0,k1,ke,f',hf',hrd,hrr⟩
  have k1:k<2:=k1
  have k0:0<=k:=k0
  have ke:e=0:=ke
  have hrr:r=frep f':=hrr
  subst ke hrr
  refine Ok.ite (fun c=>by cases c) (fun _=>?_)
  have hp:=JZ (show 15-(j+1)<=15 by omega)
  have e15:(2:Int)^15=32768:=by decide
  have e2:(2:Int)^(15-j)=2^(15-(j+1))*2:=by rw[show 15-j=15-(j+1)+1 by omega,Int.pow_succ]
  dsimp only[frep]
  rw[HP (x:=o) (l:=k) (by omega) (by omega) (by omega),wT (x:=((j+1:Nat):Int)-1-1) (by omega) (by omega),show ((j+1:Nat):Int)-1-1=(j:Int)-1 by omega]
  refine (ih m (2*o+k) f' (by omega) (by omega) (by omega) (by omega) hf' (by omega)).mono ?_
  intro z hz
  cases z with
  | inl z =>
   obtain ⟨c,r⟩:=z
   obtain ⟨a,b,f2,q1,q2,q3⟩:=hz
   exact ⟨a,b,f2,q1,by omega,q3⟩
  | inr z=>exact hz
theorem Gv (hg:B01 g) (hn:n<=1000000) {s:FS} (hf:Fok s) (hr:s.rd+480<=90000000):Ok (fun r=>(r.2.1=0/\1<=r.1/\r.1<32768\/r.2.1=70)/\Fgo s 480 r.2.2) (wB 100000 1 s.lo s.hi 0 s.rd s.va x y (pf n g)):=by
 refine Ok.bind (Ok.is (show kY 100000 (wb .u64 1)=some 1 by
  have e:wb .u64 1=((1:Nat):Int):=by decide
  rw[e];exact Vc (v:=1) (by decide) (by decide))) ?_
 rintro _ rfl
 refine Ok.bind (Gb hg hn 1 (wb .i64 (1-1)) 15 100000 s (by omega) (by omega) (by omega) hf (by omega)) ?_
 intro z hz
 cases z with
 | inl z =>
  obtain ⟨c,r⟩:=z
  obtain ⟨c0,c1,f',hf',hrd,rfl⟩:=hz
  dsimp only[frep]
  rw[wT (x:=c-1) (by omega) (by omega)]
  obtain ⟨j,rfl⟩:∃j:Nat,c=j:=⟨c.toNat,by omega⟩
  refine Ok.bind (VR hg hn 1 j 100000 1 f' (by omega) (by omega) (Int.le_refl _) ?_ hf' (by omega)) ?_
  ·have:=JZ (show 1<=15-j by omega)
   have e:(2:Int)^1=2:=by decide
   omega
  ·intro z hz
   cases z with
   | inl z =>
    obtain ⟨c,r⟩:=z
    obtain ⟨a,b,f2,q1,q2,rfl⟩:=hz
    exact Ok.some ⟨.inl ⟨rfl,a,b⟩,f2,q1,by omega,rfl⟩
   | inr z=>exact hz.elim
 | inr z =>
  obtain ⟨c,e,r⟩:=z
  obtain ⟨a,f',hf',hrd,rfl⟩:=hz
  have a:e=70:=a
  exact Ok.some ⟨.inr a,f',hf',by omega,rfl⟩
theorem Vb (hg:B01 g) (hn:n<=1000000) {A:Li} (hA:A.length<=90000) {s:FS} (hf:Fok s) (hr:s.rd+600<=90000000):Ok (fun r=>(r.2.1=0/\r.1.natAbs<=32767\/r.2.1=70)/\Fgo s 600 r.2.2) (kb 100000 0 A s.lo s.hi 0 s.rd s.va x y (pf n g)):=by
 refine Ok.bind (Ok.is (Z3 hA)) ?_
 rintro _ rfl
 refine Ok.bind (Ok.is (XO _)) ?_
 rintro _ rfl
 refine Ok.bind (Ok.is (show qK 100000 0=some 0 from J6 (a:=0) (by decide) (by decide))) ?_
 rintro _ rfl
 refine Ok.bind (Wj hg hn x y _ (QL _) hf (by omega)) ?_
 rintro ⟨k,e,r⟩ ⟨k0,k1,ke,f',hf',hrd,hrr⟩
 have k1:k<((tbl (ctx A)).length:Int):=k1
 rw[QS] at k1
 have k0:0<=k:=k0
 have ke:e=0:=ke
 have hrr:r=frep f':=hrr
 subst ke hrr
 refine Ok.ite (fun c=>by cases c) (fun _=>?_)
 refine Ok.bind (Q:=fun z=>match z with|.inl (m,r)=>(0:Int)<=m/\m<=40000/\Fgo s 500 r|.inr (_,e,r)=>e=70/\Fgo s 500 r) ?_ ?_
 ·refine Ok.ite (fun _=>?_) (fun _=>Ok.some ⟨k0,by omega,f',hf',by omega,rfl⟩)
  refine Ok.bind (Ok.is (show qK 100000 0=some 0 from J6 (a:=0) (by decide) (by decide))) ?_
  rintro _ rfl
  have e1:imax (wb .i64 (wb .i64 (0-14)+1)) 1=1:=by decide
  dsimp only[frep]
  rw[e1]
  refine Ok.bind (Gv hg hn hf' (by omega)) ?_
  rintro ⟨o,e,r⟩ ⟨ho,f2,q1,q2,q3⟩
  have q3:r=frep f2:=q3
  subst q3
  refine Ok.ite (fun c=>?_) (fun c=>?_)
  ·have c:e≠0:=by simpa using c
   rcases ho with ⟨a,_⟩|a
   ·exact absurd a c
   ·exact Ok.some ⟨a,f2,q1,by omega,rfl⟩
  ·have c:e=0:=by simpa using c
   rcases ho with ⟨_,a,b⟩|a
   ·have a:1<=o:=a
    have b:o<32768:=b
    rw[wT (x:=o+14) (by omega) (by omega),wT (x:=o+14-1) (by omega) (by omega)]
    exact Ok.some ⟨by show (0:Int)<=o+14-1;omega,by show o+14-1<=40000;omega,f2,q1,by omega,rfl⟩
   ·have a:e=70:=a
    omega
 ·intro z hz
  cases z with
  | inr z =>
   obtain ⟨c,e,r⟩:=z
   obtain ⟨a,f2,q1,q2,rfl⟩:=hz
   exact Ok.some ⟨.inr a,f2,q1,by omega,rfl⟩
  | inl z =>
   obtain ⟨m,r⟩:=z
   obtain ⟨m0,m1,f2,q1,q2,rfl⟩:=hz
   refine Ok.ite (fun _=>Ok.some ⟨.inr rfl,f2,q1,by omega,rfl⟩) (fun c=>?_)
   have c:=df c
   refine Ok.ite (fun _=>Ok.some ⟨.inl ⟨rfl,by show (0:Int).natAbs<=32767;decide⟩,f2,q1,by omega,rfl⟩) (fun _=>?_)
   refine Ok.bind (Q:=fun _=>True) (Ok.some trivial) (fun w _=>?_)
   refine Ok.bind (Ok.is (show qC 100000=some evn from rfl)) ?_
   rintro _ rfl
   refine Ok.bind (Wj hg hn x y w xZ q1 (by omega)) ?_
   rintro ⟨k,e,r⟩ ⟨k0,k1,ke,f3,hf3,hrd3,hrr⟩
   have k1:k<2:=k1
   have k0:0<=k:=k0
   have ke:e=0:=ke
   have hrr:r=frep f3:=hrr
   subst ke hrr
   refine Ok.some ⟨.inl ⟨rfl,?_⟩,f3,hf3,by omega,rfl⟩
   show (wb .i64 (m*wb .i64 (1-wb .i64 (2*k)))).natAbs<=32767
   rcases (show k=0\/k=1 by omega) with e|e
   ·rw[e,show wb .i64 (1-wb .i64 (2*0))=1 by decide,wT (by omega) (by omega)];omega
   ·rw[e,show wb .i64 (1-wb .i64 (2*1))=-1 by decide,wT (by omega) (by omega)];omega
theorem Uj (hg:B01 g) (hn:n<=1000000) {s:FS} (hf:Fok s) (hr:s.rd<=1000) (l:Int):Ok (fun z=>z.1=0->(z.2.2.2.2.2.length:Int)=l/\0<=l/\l<=120/\Stp z.2.2.2.2.2) (km 100000 l s.lo s.hi 0 s.rd s.va x y (pf n g)):=by
 refine Ok.ite (fun _=>Ok.some (fun h=>by cases h)) (fun c=>?_)
 have hl:0<=l/\l<=120:=by
  cases h1:decide (l<0)
  ·rw[h1] at c
   have:=df h1
   have:decide (l>120)=false:=c
   have:=df this
   omega
  ·rw[h1] at c;cases c
 refine Ok.bind (Q:=fun z=>match z with|.inl (_,_,_,_,q)=>(q.length:Int)=l/\Stp q|.inr (e,_)=>e≠0) ?_ ?_
 ·have key:∀(j m:Nat) (s:FS) (q:Li),j<m->(q.length:Int)+j=l->Stp q->Fok s->s.rd+600*j<=80000->Ok (fun z=>match z with|.inl (_,_,_,_,q)=>(q.length:Int)=l/\Stp q|.inr (e,_)=>e≠0) (km.l0 100000 l 0 x y (pf n g) m (q.length:Int) s.lo s.hi s.rd s.va q):=by
   intro j
   induction j with
   | zero =>
    intro m s q hm hq hS hf _
    obtain ⟨m,rfl⟩:∃q,m=q+1:=⟨m-1,by omega⟩
    show Ok _ (km.r0 100000 l 0 x y (pf n g) (km.l0 100000 l 0 x y (pf n g) m) (q.length:Int) s.lo s.hi s.rd s.va q)
    unfold km.r0
    exact Ok.ite (fun c=>by have:=dt c;omega) (fun _=>Ok.some ⟨by omega,hS⟩)
   | succ j ih =>
    intro m s q hm hq hS hf hs
    obtain ⟨m,rfl⟩:∃q,m=q+1:=⟨m-1,by omega⟩
    show Ok _ (km.r0 100000 l 0 x y (pf n g) (km.l0 100000 l 0 x y (pf n g) m) (q.length:Int) s.lo s.hi s.rd s.va q)
    unfold km.r0
    refine Ok.ite (fun _=>?_) (fun c=>by have:=df c;omega)
    refine Ok.bind (Vb hg hn (A:=q) (by omega) hf (by omega)) ?_
    rintro ⟨v,e,r⟩ ⟨ho,f2,q1,q2,q3⟩
    have q3:r=frep f2:=q3
    subst q3
    refine Ok.ite (fun c=>Ok.some (by show e≠0;simpa using c)) (fun c=>?_)
    have c:e=0:=by simpa using c
    have hv:v.natAbs<=32767:=by
     rcases ho with ⟨_,a⟩|a
     ·exact a
     ·have a:e=70:=a
      omega
    refine Ok.gd (by show ((q.length:Int)+1)*8<=_;omega) ?_
    dsimp only[frep]
    rw[kw1 (by omega) (by omega)]
    have:=ih m f2 (q++[v]) (by omega) (by rw[List.length_append];show ((q.length+1:Nat):Int)+j=l;omega) ⟨by rw[List.length_append];show q.length+1<=120;omega,fun i=>?_⟩ q1 (by omega)
    ·rw[List.length_append] at this
     exact this
    ·rw[List.getD_eq_getElem?_getD]
     by_cases hi:i<q.length
     ·rw[List.getElem?_append_left hi,<-List.getD_eq_getElem?_getD];exact hS.2 i
     ·rw[List.getElem?_append_right (by omega)]
      by_cases e:i=q.length
      ·rw[e,Nat.sub_self];exact hv
      ·rw[List.getElem?_eq_none (by simp;omega)];decide
  exact key l.toNat 100000 s [] (by omega) (by show (0:Int)+_=l;omega) ⟨by decide,fun i=>by show ((0:Int)).natAbs<=_;decide⟩ hf (by omega)
 ·intro z hz
  cases z with
  | inl z=>obtain ⟨_,_,_,_,q⟩:=z;exact Ok.some (fun _=>⟨hz.1,hl.1,hl.2,hz.2⟩)
  | inr z=>obtain ⟨e,_⟩:=z;exact Ok.some (fun h=>absurd h hz)
end
end Go.Fo
