/- Decoders play: they come to results; the law of any share. -/
import Derived.Test.YtllmmohdmmneoaaGreatMaWp
namespace Go.Fo
set_option maxRecDepth 6000
theorem UM {n f g:Int} {tu:Li} (hn:1<=n) (hn1:n<=120) (hf:0<=f) (hf1:f<=300) (hg:0<=g) (hg1:g<=120) (ht:tu.length=(8*n).toNat) (wi o:Li):Ok (fun _=>True) (qB 100000 f g n wi tu o):=by
 unfold qB
 dsimp only
 rw[wT (x:=2*f) (by omega) (by omega),wT (x:=2*f+1) (by omega) (by omega),wT (x:=2*f+1+n) (by omega) (by omega),wT (x:=2*g) (by omega) (by omega),wT (x:=2*g+1) (by omega) (by omega)]
 have m0:0<=(2*f+1+n)*(2*g+1):=Int.mul_nonneg (by omega) (by omega)
 have m1:(2*f+1+n)*(2*g+1)<=721*241:=Int.mul_le_mul (by omega) (by omega) (by omega) (by omega)
 rw[wT (x:=(2*f+1+n)*(2*g+1)) (by omega) (by omega),wT (x:=8*n) (by omega) (by omega)]
 have t0:=Int.tmod_nonneg (8*n) m0
 have t1:=Int.tmod_lt_of_pos ((2*f+1+n)*(2*g+1)) (show 0<8*n by omega)
 generalize Int.tmod ((2*f+1+n)*(2*g+1)) (8*n)=m at *
 exact Ok.gd (by omega) (Ok.gd ⟨t0,by omega⟩ (Ok.some trivial))
theorem Ge {a:Int} (h:a≠0) (b:Int):Ok (fun _=>True) (yk 100000 b a):=Ok.gd h (Ok.gd h (Ok.bind (Q:=fun _=>True) (Ok.ite (fun _=>Ok.some trivial) (fun _=>Ok.some trivial)) (fun _ _=>Ok.some trivial)))
theorem Uu {n d:Int} {q wi tu:Li} (hn:1<=n) (hn1:n<=120) (hq:(q.length:Int)=n) (hd:0<=d) (hd1:d<2*n) (hw:wi.length=(2*n).toNat) (ht:tu.length=(8*n).toNat) (o:Li):Ok (fun _=>True) (wW 100000 q d n wi tu o):=by
 refine Ok.bind (Q:=fun _=>True) ?_ ?_
 ·unfold wW.l0
  refine qo (fun _ a=>0<=a/\a<=n) (fun _ a=>(n-a).toNat) _ ?_ 100000 _ _ ⟨by omega,by omega⟩ (by omega)
  rintro next e a ⟨h1,h2⟩ ih
  refine Ok.ite (fun c=>?_) (fun _=>Ok.some trivial)
  have c:=dt c
  have e:=kw1 (x:=a) (by omega) (by omega)
  exact Ok.gd ⟨h1,c⟩ (Ok.bind (UM hn hn1 hd (by omega) h1 (by omega) ht wi o) (fun _ _=>ih _ _ ⟨by omega,by omega⟩ (by omega)))
 ·intro h _
  refine Ok.bind (xK _ _) (fun i _=>?_)
  refine Ok.bind (Ge (by omega) _) (fun _ _=>?_)
  refine Ok.bind (yl _) (fun _ _=>?_)
  refine Ok.bind (Q:=fun _=>True) (Ok.gd ⟨hd,by omega⟩ (Ok.bind (xK _ _) (fun _ _=>Ok.some trivial))) (fun _ _=>?_)
  exact Ok.bind (yl _) (fun _ _=>Ok.some trivial)
theorem VP {n:Int} {q wi tu ol:Li} (hn:1<=n) (hn1:n<=120) (hq:(q.length:Int)=n) (hw:wi.length=(2*n).toNat) (ht:tu.length=(8*n).toNat) (ho:ol.length=n.toNat):Ok (fun r=>r.1.length=n.toNat/\r.2.1=0/\r.2.2.length=n.toNat) (wD 100000 q n wi tu ol):=by
 refine Ok.ite (fun c=>by rw[hq] at c;simp at c) (fun _=>?_)
 refine Ok.gd ⟨by omega,Int.le_refl _,by omega⟩ ?_
 refine Ok.bind (Q:=fun (l:Li)=>l.length=n.toNat) ?_ (fun h hh=>Ok.bind (Q:=fun (l:Li)=>l.length=n.toNat) ?_ (fun k hk=>Ok.some ⟨hh,rfl,hk⟩))
 ·unfold wD.l1
  refine qo (fun a l=>0<=a/\a<=n/\l.length=n.toNat) (fun a _=>(n-a).toNat) _ ?_ 100000 _ _ ⟨by omega,by omega,by simp⟩ (by omega)
  rintro next a l ⟨h1,h2,h3⟩ ih
  refine Ok.ite (fun c=>?_) (fun _=>Ok.some h3)
  have c:=dt c
  rw[List.length_replicate] at c
  have e:=kw1 (x:=a) (by omega) (by omega)
  refine Ok.gd ⟨h1,by omega⟩ (Ok.gd (by omega) (Ok.bind (Uu hn hn1 hq h1 (by omega) hw ht _) (fun _ _=>Ok.bind (WC _ _) (fun _ _=>Ok.gd ⟨h1,by omega⟩ (Ok.gd (by omega) (ih _ _ ⟨by omega,by omega,by rw[List.length_set];exact h3⟩ (by omega)))))))
 ·unfold wD.l0
  refine qo (fun a l=>0<=a/\a<=n/\l.length=n.toNat) (fun a _=>(n-a).toNat) _ ?_ 100000 _ _ ⟨by omega,by omega,ho⟩ (by omega)
  rintro next a l ⟨h1,h2,h3⟩ ih
  refine Ok.ite (fun c=>?_) (fun _=>Ok.some h3)
  have c:=dt c
  have e:=kw1 (x:=a) (by omega) (by omega)
  rw[wT (x:=n+a) (by omega) (by omega)]
  refine Ok.bind (Uu hn hn1 hq (d:=n+a) (by omega) (by omega) hw ht _) (fun _ _=>Ok.gd ⟨h1,by omega⟩ (Ok.gd (by omega) (ih _ _ ⟨by omega,by omega,by rw[List.length_set];exact h3⟩ (by omega))))
theorem WA {la st:Int} (h:(la=0/\st=0)\/(1<=st/\st<=3/\16<=la/\la<=79)):zQ 100000 la st=some 0:=by
 rcases h with ⟨rfl,rfl⟩|⟨h1,h2,h3,h4⟩
 ·rfl
 ·unfold zQ
  dsimp only
  rw[decide_eq_false (show ¬st<1 by omega),decide_eq_false (show ¬st>3 by omega),decide_eq_false (show ¬la<16 by omega),decide_eq_false (show ¬la>79 by omega)]
  cases (la==0&&st==0)<;>rfl
theorem Gj {x co:Li} {la st:Int} (hx:x.length<=120) (hc:co.length=79) (hp:(la=0/\st=0)\/(1<=st/\st<=3/\16<=la/\la<=79)):Ok (fun r=>r.1.length=x.length/\r.2.1=0/\r.2.2.length=79) (wR 100000 x la st co):=by
 refine Ok.ite (fun c=>by have:=dt c;omega) (fun _=>?_)
 refine Ok.bind (Ok.is (WA hp)) ?_
 rintro _ rfl
 refine Ok.ite (fun c=>by cases c) (fun _=>?_)
 refine Ok.gd ⟨by omega,Int.le_refl _,by omega⟩ ?_
 refine Ok.bind (Q:=fun (l:Li)=>l.length=x.length) ?_ ?_
 ·unfold wR.l1
  refine qo (fun a l=>0<=a/\a<=(x.length:Int)/\l.length=x.length) (fun a _=>((x.length:Int)-a).toNat) _ ?_ 100000 _ _ ⟨by omega,by omega,by simp⟩ (by omega)
  rintro next a l ⟨h1,h2,h3⟩ ih
  refine Ok.ite (fun c=>?_) (fun _=>Ok.some h3)
  have c:=dt c
  have e:=kw1 (x:=a) (by omega) (by omega)
  exact Ok.gd ⟨h1,c⟩ (Ok.gd ⟨h1,by omega,by omega⟩ (ih _ _ ⟨by omega,by omega,by rw[List.length_set];exact h3⟩ (by omega)))
 ·intro f hf
  refine Ok.bind (Q:=fun (l:Li)=>l.length=79+x.length) ?_ ?_
  ·refine Ok.bind (Q:=fun (l:Li)=>l.length=79+x.length) ?_ (fun r hr=>Ok.some hr)
   unfold qq
   rw[wT (x:=79+(f.length:Int)) (by omega) (by omega)]
   refine Ok.bind (Q:=fun g=>g=79+(f.length:Int)) (Ok.ite (fun c=>by have:=dt c;omega) (fun _=>Ok.some rfl)) ?_
   intro g hg
   refine Ok.bind (Q:=fun _=>True) (Ok.gd ⟨by omega,by omega⟩ (Ok.some trivial)) (fun _ _=>?_)
   refine Ok.bind (Q:=fun (l:Li)=>l.length=79+x.length) (Ok.gd ?_ (Ok.gd ?_ (Ok.some ?_))) (fun r hr=>Ok.some hr)
   ·show ((0:Int)+(co.length:Int))*8<=_;omega
   ·rw[List.nil_append];omega
   ·rw[List.nil_append,List.length_append];omega
  ·intro h hh
   refine Ok.gd ⟨by omega,Int.le_refl _,by omega⟩ ?_
   refine Ok.bind (Q:=fun (l:Li)=>l.length=x.length) ?_ ?_
   ·unfold wR.l0
    refine qo (fun a l=>0<=a/\a<=(f.length:Int)/\l.length=x.length) (fun a _=>((f.length:Int)-a).toNat) _ ?_ 100000 _ _ ⟨by omega,by omega,by simp⟩ (by omega)
    rintro next a l ⟨h1,h2,h3⟩ ih
    refine Ok.ite (fun c=>?_) (fun _=>Ok.some h3)
    have c:=dt c
    have e:=kw1 (x:=a) (by omega) (by omega)
    refine Ok.gd ⟨h1,c⟩ ?_
    dsimp only
    rw[wT (x:=79+a) (by omega) (by omega),wT (x:=79+a-la) (by omega) (by omega)]
    refine Ok.gd ⟨by omega,by omega⟩ ?_
    refine Ok.bind (xK _ _) (fun _ _=>Ok.bind (VB _) (fun _ _=>?_))
    exact Ok.gd ⟨h1,by omega,by omega⟩ (ih _ _ ⟨by omega,by omega,by rw[List.length_set];exact h3⟩ (by omega))
   ·intro l hl
    refine Ok.bind (Q:=fun (l:Li)=>l.length=79) ?_ (fun m hm=>Ok.some ⟨hl,rfl,hm⟩)
    unfold kv
    rw[wT (x:=(h.length:Int)-79) (by omega) (by omega)]
    refine Ok.gd ⟨by omega,by omega,by omega⟩ (Ok.some ?_)
    unfold cpy
    simp only[List.length_append,List.length_take,List.length_drop]
    omega
theorem Zl {n s la st:Int} {q wi tu co ol:Li} (hn:vj n) (h:Mth n s wi tu co ol) (hq:(q.length:Int)=n) (hp:(la=0/\st=0)\/(1<=st/\st<=3/\16<=la/\la<=79)) {β:Type} {P:β->Prop} {k:Li->Li->Li->Option β} (hk:∀x c o,x.length=n.toNat->Mth n s wi tu c o->Ok P (k x c o)):Ok P ((wD 100000 q s wi tu ol).bind fun (o,_,p)=>(wR 100000 o la st co).bind fun (q,_,s)=>k q s p):=by
 have hb:=yp hn
 obtain ⟨h1,h2,h3,h4,h5⟩:=h
 subst h1
 refine Ok.bind (VP (by omega) (by omega) hq h2 h3 h5) ?_
 rintro ⟨o,e,p⟩ ⟨g1,g2,g3⟩
 have g1:o.length=s.toNat:=g1
 refine Ok.bind (Gj (by omega) h4 hp) ?_
 rintro ⟨a,b,c⟩ ⟨f1,f2,f3⟩
 have f1:a.length=o.length:=f1
 exact hk _ _ _ (by omega) ⟨rfl,h2,h3,f3,g3⟩
theorem KA {e:List Li} {m:Nat} (he:e.length=1\/e.length=2) (hm:m<=1000) (ha:∀i,i<e.length->(Kd.nth (.slice (.int .i16)) e i).length=m):Ok (fun r=>r.2=0/\(e.length=1->r.1.length=m)/\(e.length=2->r.1.length=2*m)) (qx 100000 e):=by
 have i1:(Kd.nth (.slice (.int .i16)) e 0).length=m:=ha 0 (by omega)
 have i2:(Kd.nth (.slice (.int .i16)) e (e.length-1)).length=m:=ha _ (by omega)
 unfold qx
 dsimp only
 rw[wT (x:=(e.length:Int)-1) (by omega) (by omega),decide_eq_false (show ¬(e.length:Int)<1 by omega),decide_eq_false (show ¬(e.length:Int)>2 by omega),show ((e.length:Int)-1).toNat=e.length-1 by omega,i1,i2]
 refine Ok.gd (fun _=>by omega) (Ok.gd ⟨fun _=>by omega,fun _=>by omega⟩ (Ok.ite (fun c=>?_) (fun _=>Ok.gd (by omega) ?_)))
 ·have c:((m:Int) != (m:Int))=true:=c
  simp at c
 refine Ok.bind (Q:=fun (l:Li)=>(e.length=1->l.length=m)/\(e.length=2->l.length=2*m)) ?_ (fun l hl=>Ok.some ⟨rfl,hl⟩)
 unfold qx.l0
 refine qo (fun a l=>0<=a/\a<=(m:Int)/\(e.length=1->(l.length:Int)=a)/\(e.length=2->(l.length:Int)=2*a)) (fun a _=>((m:Int)-a).toNat) _ ?_ 100000 _ _ ⟨by omega,by omega,fun _=>rfl,fun _=>rfl⟩ (by omega)
 rintro next a l ⟨h1,h2,h3,h4⟩ ih
 refine Ok.ite (fun c=>?_) (fun c=>?_)
 ·have c:=dt c
  have e1:=kw1 (x:=a) (by omega) (by omega)
  refine Ok.bind (Q:=fun (g:Li)=>g.length=l.length+e.length) ?_ (fun g hg=>ih _ _ ⟨by omega,by omega,fun q=>by have:=h3 q;omega,fun q=>by have:=h4 q;omega⟩ (by omega))
  unfold qx.l1
  refine qo (fun b k=>0<=b/\b<=(e.length:Int)/\(k.length:Int)=l.length+b) (fun b _=>((e.length:Int)-b).toNat) _ ?_ 100000 _ _ ⟨by omega,by omega,by omega⟩ (by omega)
  rintro next2 b k ⟨g1,g2,g3⟩ ih2
  refine Ok.ite (fun d=>?_) (fun d=>Ok.some ?_)
  ·have d:=dt d
   have e2:=kw1 (x:=b) (by omega) (by omega)
   have hb:=ha b.toNat (by omega)
   have hl3:(l.length:Int)<=2000:=by
    rcases he with q|q
    ·have:=h3 q;omega
    ·have:=h4 q;omega
   refine Ok.gd ⟨g1,d⟩ (Ok.gd ⟨h1,by omega,?_⟩ (ih2 _ _ ⟨by omega,by omega,?_⟩ (by omega)))
   ·show ((k.length:Int)+1)*2<=_;omega
   ·rw[List.length_append];show ((k.length+1:Nat):Int)=_;omega
  ·have d:=df d
   omega
 ·have c:=df c
  exact Ok.some ⟨fun q=>by have:=h3 q;omega,fun q=>by have:=h4 q;omega⟩
theorem Ur {p0 p1 p2 p3 p4 p5 p6 p7 p8 p9 la st s:Int} {bb wi tu co ol:Li} (hn:vj p8) (h:Mth p8 s wi tu co ol) (hb:(bb.length:Int)=p8) (hp:(la=0/\st=0)\/(1<=st/\st<=3/\16<=la/\la<=79)):Ok (fun r=>r.2.1=0/\(r.1.length:Int)=p8) (w4 100000 [bb] [(la,st)] p0 p1 1 p3 p4 p5 p6 p7 p8 p9 s wi tu co ol):=by
 have hn4:=yp hn
 refine Ok.bind (Q:=fun z=>z=.inl ()) ?_ ?_
 ·unfold w4.l1
  refine kS (fun a=>a=0\/a=1) (fun a=>(1-a).toNat) _ ?_ 100000 _ (.inl rfl) (by omega)
  rintro next a ha ih
  refine Ok.ite (fun c=>?_) (fun _=>Ok.some rfl)
  have c:a<1:=dt c
  have ha:a=0:=by omega
  subst ha
  refine Ok.gd ⟨by decide,by show (0:Int)<1;decide⟩ (Ok.bind (Q:=fun x=>x=false) (Ok.ite (fun c=>?_) (fun _=>?_)) ?_)
  ·have c:(((bb.length:Nat):Int) != p8)=true:=c
   rw[hb] at c;simp at c
  ·refine Ok.gd ⟨by decide,by show (0:Int)<1;decide⟩ ?_
   exact Ok.bind (Ok.is (WA hp)) (fun r hr=>Ok.some (by rw[hr];rfl))
  ·rintro _ rfl
   exact ih _ (.inr rfl) (by decide)
 ·intro z hz
  rw[hz]
  refine Ok.gd ⟨by show (0:Int)<=1;decide,Int.le_refl _,by show (1:Int)*24<=_;decide⟩ ?_
  refine Ok.bind (Q:=fun (r:Li×Li×List Li)=>∃x:Li,x.length=p8.toNat/\r.2.2=[x]) ?_ ?_
  ·unfold w4.l0
   refine vV (fun a f g b=>(a=0/\f=co/\g=ol/\b=[[]])\/(a=1/\∃x:Li,x.length=p8.toNat/\b=[x])) (fun a _ _ _=>(1-a).toNat) _ ?_ 100000 _ _ _ _ (.inl ⟨rfl,rfl,rfl,rfl⟩) (by omega)
   rintro next a f g b ha ih
   refine Ok.ite (fun c=>?_) (fun c=>Ok.some ?_)
   ·have c:a<1:=dt c
    rcases ha with ⟨rfl,rfl,rfl,rfl⟩|⟨e,_⟩
    ·refine Ok.gd ⟨by decide,by show (0:Int)<1;decide⟩ (Ok.ite (fun _=>?_) (fun c=>by cases c))
     refine Zl (k:=fun x c o=>gd ((0:Int)<(([[]]:List Li).length:Int)) (gd (0<([[]]:List Li).length) (next 1 c o (List.set [[]] 0 x)))) hn h hb hp ?_
     intro x c o hx hM
     exact Ok.gd (by decide) (Ok.gd (by decide) (ih _ _ _ _ (.inr ⟨rfl,x,hx,rfl⟩) (by decide)))
    ·omega
   ·have c:¬a<1:=df c
    rcases ha with ⟨e,_⟩|⟨_,q⟩
    ·omega
    ·exact q
  ·rintro ⟨A,B,D⟩ ⟨x,hx,hD⟩
   have hD:D=[x]:=hD
   subst hD
   refine Ok.bind (KA (e:=[x]) (m:=p8.toNat) (.inl rfl) (by omega) (fun i hi=>?_)) ?_
   ·have hi:i<1:=hi
    have e:i=0:=by omega
    rw[e];exact hx
   ·rintro ⟨E,F⟩ ⟨g1,g2,_⟩
    have g2:E.length=p8.toNat:=g2 rfl
    exact Ok.some ⟨g1,by show (E.length:Int)=p8;omega⟩
theorem U0 {p0 p1 p2 p3 p4 p5 p6 p7 p8 p9 la st s s2:Int} {bb wi tu co ol wi2 tu2 co2 ol2:Li} (hn:vj p8) (h:Mth p8 s wi tu co ol) (h2:Mth p8 s2 wi2 tu2 co2 ol2) (hb:(bb.length:Int)=p8) (hp:(la=0/\st=0)\/(1<=st/\st<=3/\16<=la/\la<=79)):Ok (fun r=>r.2.1=0/\(r.1.length:Int)=2*p8) (w3 100000 [bb,bb] [(la,st),(la,st)] p0 p1 2 p3 p4 p5 p6 p7 p8 p9 s wi tu co s2 wi2 tu2 co2 ol ol2):=by
 have hn4:=yp hn
 refine Ok.bind (Q:=fun z=>z=.inl ()) ?_ ?_
 ·unfold w3.l1
  refine kS (fun a=>a=0\/a=1\/a=2) (fun a=>(2-a).toNat) _ ?_ 100000 _ (.inl rfl) (by omega)
  rintro next a ha ih
  refine Ok.ite (fun c=>?_) (fun _=>Ok.some rfl)
  have c:a<2:=dt c
  refine Ok.gd ⟨by omega,c⟩ (Ok.bind (Q:=fun x=>x=false) ?_ ?_)
  ·rcases ha with rfl|rfl|rfl
   ·refine Ok.ite (fun c=>?_) (fun _=>?_)
    ·have c:(((bb.length:Nat):Int) != p8)=true:=c
     rw[hb] at c;simp at c
    ·refine Ok.gd ⟨by decide,by show (0:Int)<2;decide⟩ ?_
     exact Ok.bind (Ok.is (WA hp)) (fun r hr=>Ok.some (by rw[hr];rfl))
   ·refine Ok.ite (fun c=>?_) (fun _=>?_)
    ·have c:(((bb.length:Nat):Int) != p8)=true:=c
     rw[hb] at c;simp at c
    ·refine Ok.gd ⟨by decide,by show (1:Int)<2;decide⟩ ?_
     exact Ok.bind (Ok.is (WA hp)) (fun r hr=>Ok.some (by rw[hr];rfl))
   ·omega
  ·rintro _ rfl
   have e1:=kw1 (x:=a) (by omega) (by omega)
   refine ih _ ?_ (by omega)
   rw[e1];omega
 ·intro z hz
  rw[hz]
  refine Ok.gd ⟨by show (0:Int)<=2;decide,Int.le_refl _,by show (2:Int)*24<=_;decide⟩ ?_
  refine Ok.bind (Q:=fun (r:Li×Li×Li×Li×List Li)=>∃x y:Li,x.length=p8.toNat/\y.length=p8.toNat/\r.2.2.2.2=[x,y]) ?_ ?_
  ·unfold w3.l0
   refine vT (fun a e f g h b=>(a=0/\e=co/\f=co2/\g=ol/\h=ol2/\b=[[],[]])\/(a=1/\f=co2/\h=ol2/\∃x:Li,x.length=p8.toNat/\b=[x,[]])\/(a=2/\∃x y:Li,x.length=p8.toNat/\y.length=p8.toNat/\b=[x,y])) (fun a _ _ _ _ _=>(2-a).toNat) _ ?_ 100000 _ _ _ _ _ _ (.inl ⟨rfl,rfl,rfl,rfl,rfl,rfl⟩) (by omega)
   rintro next a e f g h3 b ha ih
   refine Ok.ite (fun c=>?_) (fun c=>Ok.some ?_)
   ·have c:a<2:=dt c
    rcases ha with ⟨rfl,rfl,rfl,rfl,rfl,rfl⟩|⟨rfl,rfl,rfl,x,hx,rfl⟩|⟨q,_⟩
    ·refine Ok.bind (Q:=fun (r:Int×Li×Li×Li×Li×List Li)=>r.1=0/\r.2.2.1=f/\r.2.2.2.2.1=h3/\∃x:Li,x.length=p8.toNat/\r.2.2.2.2.2=[x,[]]) ?_ ?_
     ·refine Ok.gd ⟨by decide,by show (0:Int)<2;decide⟩ (Ok.ite (fun _=>?_) (fun c=>by cases c))
      refine Zl (k:=fun x c o=>gd ((0:Int)<(([[],[]]:List Li).length:Int)) (gd (0<([[],[]]:List Li).length) (some ((0:Int),c,f,o,h3,(List.set [[],[]] 0 x))))) hn h hb hp ?_
      intro x c o hx hM
      exact Ok.gd (by decide) (Ok.gd (by decide) (Ok.some ⟨rfl,rfl,rfl,x,hx,rfl⟩))
     ·rintro ⟨I,J,L,M,N,O⟩ ⟨q1,q2,q3,x,hx,q4⟩
      have q1:I=0:=q1
      have q2:L=f:=q2
      have q3:N=h3:=q3
      have q4:O=[x,[]]:=q4
      subst q1 q2 q3 q4
      exact ih _ _ _ _ _ _ (.inr (.inl ⟨rfl,rfl,rfl,x,hx,rfl⟩)) (by decide)
    ·refine Ok.bind (Q:=fun (r:Int×Li×Li×Li×Li×List Li)=>r.1=1/\∃x y:Li,x.length=p8.toNat/\y.length=p8.toNat/\r.2.2.2.2.2=[x,y]) ?_ ?_
     ·refine Ok.gd ⟨by decide,by show (1:Int)<2;decide⟩ (Ok.ite (fun c=>by cases c) (fun _=>Ok.ite (fun _=>?_) (fun c=>by cases c)))
      refine Zl (k:=fun y c o=>gd ((1:Int)<(([x,[]]:List Li).length:Int)) (gd (1<([x,[]]:List Li).length) (some ((1:Int),e,c,g,o,(List.set [x,[]] 1 y))))) hn h2 hb hp ?_
      intro y c o hy hM
      exact Ok.gd (by show (1:Int)<2;decide) (Ok.gd (by show 1<2;decide) (Ok.some ⟨rfl,x,y,hx,hy,rfl⟩))
     ·rintro ⟨I,J,L,M,N,O⟩ ⟨q1,x,y,hx,hy,q4⟩
      have q1:I=1:=q1
      have q4:O=[x,y]:=q4
      subst q1 q4
      exact ih _ _ _ _ _ _ (.inr (.inr ⟨rfl,x,y,hx,hy,rfl⟩)) (by decide)
    ·omega
   ·have c:¬a<2:=df c
    rcases ha with ⟨e,_⟩|⟨e,_⟩|⟨_,q⟩
    ·omega
    ·omega
    ·exact q
  ·rintro ⟨A,B,D,E,G⟩ ⟨x,y,hx,hy,hG⟩
   have hG:G=[x,y]:=hG
   subst hG
   refine Ok.bind (KA (e:=[x,y]) (m:=p8.toNat) (.inr rfl) (by omega) (fun i hi=>?_)) ?_
   ·have hi:i<2:=hi
    have e:i=0\/i=1:=by omega
    rcases e with rfl|rfl
    ·exact hx
    ·exact hy
   ·rintro ⟨E,F⟩ ⟨g1,_,g2⟩
    have g2:E.length=2*p8.toNat:=g2 rfl
    exact Ok.some ⟨g1,by show (E.length:Int)=2*p8;omega⟩
theorem g9 (s:ByteArray):(sbytes s).length=s.size:=by
 unfold sbytes
 rw[List.length_map]
 exact Array.length_toList
theorem gw (s:ByteArray):U8 (sbytes s):=by
 intro x hx
 unfold sbytes at hx
 rw[List.mem_map] at hx
 obtain ⟨b,_,rfl⟩:=hx
 have:=b.toNat_lt
 exact ⟨by omega,by omega⟩
theorem uh:qJ 100000=some true:=by kernel_rfl
end Go.Fo
