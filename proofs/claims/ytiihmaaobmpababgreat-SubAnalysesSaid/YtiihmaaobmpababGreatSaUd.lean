/- What may be,says the document. -/
import Derived.Test.YtiihmaaobmpababGreatSaUc
import Derived.Test.YtiihmaaobmpababGreatSaEi
namespace Go.Fo
set_option maxRecDepth 6000
theorem vF {a b:Bool} (h:(bif a then true else b)=false):a=false/\b=false:=by cases a; exact ⟨rfl,h⟩; cases h
theorem Wy {a b:Bool} (h:(bif a then true else b)=true):a=true\/b=true:=by cases a; exact .inr h; exact .inl rfl
theorem xI {x y:Int} (h:(x != y)=false):x=y:=by simpa using h
theorem xT {x y:Int} (h:(x != y)=true):x≠y:=by simpa using h
theorem JJ (p0 p1 p2 p3 p4 p5 p6 p7 p8 p9:Int) (h:WO p0 p1 p2 p3 p4 p5 p6 p7 p8 p9):Ok (fun r=>r=ym p2 p3 p4 p6 p7) (qc 5000 p0 p1 p2 p3 p4 p5 p6 p7 p8 p9):=by
 obtain ⟨q1,q2,q3,q4,q5,q6,q7,q8,_⟩:=prods p0 p1 p2 p3 p4 p5 p6 p7 p8 p9 h
 have h0:=h.1
 have h2:p2=1\/p2=2:=h.2.2.2.1
 have h6:p6=0\/(p6=1/\p2=2):=h.2.2.2.2.2.2.2.1
 have e:(p0==2)=false:=by rw [h0]; rfl
 refine Ok.ite (fun c=>by rw [e] at c; cases c) (fun _=>?_)
 dsimp only
 rw [zY (x:=p4*p7) (by omega) (by omega),zY (x:=32+p4*p7) (by omega) (by omega)]
 refine Ok.bind (Q:=fun r=>r=32+p4*p7+4*p3*p2) ?_ ?_
 ·unfold qc.l0
  refine wA (fun x c=>0<=c/\c<=p2/\x=32+p4*p7+4*p3*c) (fun _ c=>(p2-c).toNat) _ ?_ 5000 _ _ ⟨by omega,by omega,by rw [Int.mul_zero,Int.add_zero]⟩ (by omega)
  rintro next x c ⟨g1,g2,g3⟩ ih
  refine Ok.ite (fun d=>?_) (fun d=>Ok.some ?_)
  ·have d:=dt d
   have hm:4*p3*(c+1)=4*p3*c+4*p3:=by rw [Int.mul_add,Int.mul_one]
   have hc:c=0\/c=1:=by omega
   have e1:wb .i64 (4*p3)=4*p3:=zY (by omega) (by omega)
   have e2:wb .i64 (x+4*p3)=x+4*p3:=by rcases hc with rfl | rfl<;>exact zY (by omega) (by omega)
   have e3:=kw1 (x:=c) (by omega) (by omega)
   dsimp only
   rw [e1,e2,e3]
   exact ih _ _ ⟨by omega,by omega,by rw [hm]; omega⟩ (by omega)
  ·have d:=df d
   have:c=p2:=by omega
   rw [g3,this]
 ·rintro _ rfl
  refine Ok.bind (Q:=fun r=>r=ym p2 p3 p4 p6 p7) (Ok.ite (fun c=>?_) (fun c=>?_)) (fun r hr=>Ok.some hr)
  ·have c:p6=1:=by simpa using c
   refine Ok.some ?_
   show wb .i64 (32+p4*p7+4*p3*p2+p3)=_
   unfold ym
   rw [zY (by omega) (by omega),c,Int.one_mul]; omega
  ·have c:¬ p6=1:=by simpa using c
   refine Ok.some ?_
   have:p6=0:=by omega
   unfold ym
   rw [this,Int.zero_mul]; omega
theorem Qn (p0 p1 p2 p3 p4 p5 p6 p7 p8 p9:Int):Ok (fun r=>r=true↔yf p0 p1 p2 p3 p4 p5 p6 p7 p8 p9) (qU 5000 p0 p1 p2 p3 p4 p5 p6 p7 p8 p9):=by
 refine Ok.ite (fun c=>Ok.some ⟨fun h=>(by cases h),fun h=>?_⟩) (fun c=>?_)
 ·have a0:=h.1.1; have a8:=h.1.2.2.2.2.2.2.2.2.2.2.2.1; have a9:=h.1.2.2.2.2.2.2.2.2.2.2.2.2
  rw [a0,a8,a9] at c; cases c
 obtain ⟨c,k9⟩:=vF c
 obtain ⟨k0,k8⟩:=vF c
 have k0:=xI k0; have k8:=xI k8; have k9:=xI k9
 refine Ok.ite (fun c=>Ok.some ⟨fun h=>(by cases h),fun h=>?_⟩) (fun c=>?_)
 ·have g:=h.1
  obtain ⟨_,a1,a2,a3,_,_,a5,_⟩:=g
  rcases Wy c with c | c
  ·rcases Wy c with c | c
   ·rcases Wy c with c | c
    ·rcases Wy c with c | c
     ·rcases Wy c with c | c
      ·have:=dt c; omega
      ·have:=dt c; omega
     ·have:=dt c; omega
    ·have:=dt c; omega
   ·have:=dt c; omega
  ·have:=dt c; omega
 obtain ⟨c,x6⟩:=vF c
 obtain ⟨c,x5⟩:=vF c
 obtain ⟨c,x4⟩:=vF c
 obtain ⟨c,x3⟩:=vF c
 obtain ⟨x1,x2⟩:=vF c
 have x1:=df x1; have x2:=df x2; have x3:=df x3; have x4:=df x4; have x5:=df x5; have x6:=df x6
 refine Ok.ite (fun c=>Ok.some ⟨fun h=>(by cases h),fun h=>?_⟩) (fun c=>?_)
 ·obtain ⟨_,_,_,_,a3,a4,_⟩:=h.1
  rcases Wy c with c | c
  ·obtain ⟨c1,c2⟩:=xA c
   have c1:=xT c1; have c2:=xT c2; omega
  ·obtain ⟨c,c4⟩:=xA c
   obtain ⟨c,c3⟩:=xA c
   obtain ⟨c1,c2⟩:=xA c
   have c1:=xT c1; have c2:=xT c2; have c3:=xT c3; have c4:=xT c4; omega
 obtain ⟨y3,y4⟩:=vF c
 have y3:p3=4\/p3=8:=by
  rcases vT y3 with c | c
  ·exact .inl (xI c)
  ·exact .inr (xI c)
 have y4:p4=4\/p4=8\/p4=12\/p4=16:=by
  rcases vT y4 with c | c
  ·rcases vT c with c | c
   ·rcases vT c with c | c
    ·exact .inl (xI c)
    ·exact .inr (.inl (xI c))
   ·exact .inr (.inr (.inl (xI c)))
  ·exact .inr (.inr (.inr (xI c)))
 refine Ok.ite (fun c=>Ok.some ⟨fun h=>(by cases h),fun h=>?_⟩) (fun c=>?_)
 ·obtain ⟨_,_,_,_,_,_,_,a6,_⟩:=h.1
  obtain ⟨c1,c2⟩:=xA c
  have c1:=xT c1
  rcases Wy c2 with c | c
  ·have:=xT c; omega
  ·have:=xT c; omega
 have y6:p6=0\/(p6=1/\p2=2):=by
  rcases vT c with c | c
  ·exact .inl (xI c)
  ·obtain ⟨c1,c2⟩:=vF c
   exact .inr ⟨xI c1,xI c2⟩
 have k28:wb .i64 (wb .i64 (16*p3)*p2)=16*p3*p2:=by
  rw [zY (x:=16*p3) (by omega) (by omega)]
  rcases (show p2=1\/p2=2 by omega) with rfl | rfl<;>exact zY (by omega) (by omega)
 refine Ok.bind (Q:=fun r=>r=true↔yf p0 p1 p2 p3 p4 p5 p6 p7 p8 p9) ?_ (fun r hr=>Ok.some hr)
 dsimp only
 rw [k28]
 refine Ok.ite (fun c=>?_) (fun c=>Ok.some ⟨fun h=>(by cases h),fun h=>?_⟩)
 ·obtain ⟨c,c3⟩:=xA c
  obtain ⟨c1,c2⟩:=xA c
  have c1:=dt c1; have c2:=dt c2; have c3:=dt c3
  have hs:WO p0 p1 p2 p3 p4 p5 p6 p7 p8 p9:=⟨k0,by omega,by omega,by omega,y3,y4,by omega,y6,c1,c2,c3,k8,k9⟩
  refine Ok.bind (JJ p0 p1 p2 p3 p4 p5 p6 p7 p8 p9 hs) ?_
  rintro _ rfl
  exact Ok.some ⟨fun h=>⟨hs,dt h⟩,fun h=>decide_eq_true h.2⟩
 ·obtain ⟨_,_,_,_,_,_,_,_,b1,b2,b3,_⟩:=h.1
  rw [decide_eq_true (by omega:p7>=2),decide_eq_true (by omega:p7<=250),decide_eq_true b3] at c
  cases c
theorem Q0 {w:Int} (h0:0<=w) (h1:w<=40):Ok (fun r=>r=2^w.toNat) (wK 5000 w):=by
 refine Ok.bind (Q:=fun r=>r=2^w.toNat) ?_ (fun r hr=>Ok.some hr)
 unfold wK.l0
 refine wA (fun x i=>0<=i/\i<=w/\x=2^i.toNat) (fun _ i=>(w-i).toNat) _ ?_ 5000 _ _ ⟨by omega,by omega,rfl⟩ (by omega)
 rintro next x i ⟨g1,g2,g3⟩ ih
 refine Ok.ite (fun d=>?_) (fun d=>Ok.some ?_)
 ·have d:=dt d
  have hp:(2:Int)^i.toNat<=2^40:=Kk (by omega)
  have hp0:(0:Int)<2^i.toNat:=Int.pow_pos (by decide)
  have e40:(2:Int)^40=1099511627776:=rfl
  have e:=kw1 (x:=i) (by omega) (by omega)
  refine ih _ _ ⟨by omega,by omega,?_⟩ (by omega)
  rw [e,tS g1,Int.pow_succ,<-g3]
  exact zY (by omega) (by omega)
 ·have d:=df d
  rw [g3,show i.toNat=w.toNat by omega]
theorem Un {x y:Int} (hy:y≠0):Ok (fun _=>True) (w4 5000 x y) :=
 Ok.gd hy (Ok.bind (Q:=fun _=>True) (Ok.ite (fun _=>Ok.some trivial) (fun _=>Ok.some trivial)) (fun _ _=>Ok.some trivial))
theorem ug (q s w:Int):Ok (fun r=>r.2=0↔lev q s w) (qq 5000 q s w):=by
 have hmay:Ok (fun r=>r=true↔(0<=s/\s<=15/\(w=0\/2<=w/\w<=16))) (qD 5000 s w):=by
  refine Ok.some ⟨fun h=>?_,fun h=>?_⟩
  ·obtain ⟨h,c5⟩:=xA h
   obtain ⟨h,c4⟩:=xA h
   obtain ⟨h,c3⟩:=xA h
   obtain ⟨c1,c2⟩:=xA h
   have c1:=dt c1; have c2:=dt c2; have c3:=dt c3; have c4:=dt c4; have c5:=xT c5
   omega
  ·rw [decide_eq_true (by omega:s>=0),decide_eq_true (by omega:s<=15),decide_eq_true (by omega:w>=0),decide_eq_true (by omega:w<=16),show (w != 1)=true by simp; omega]; rfl
 refine Ok.bind hmay ?_
 intro r hr
 refine Ok.ite (fun c=>Ok.some ⟨fun h=>(by cases h),fun h=>?_⟩) (fun c=>?_)
 ·obtain ⟨⟨a1,a2,a3⟩,a4,_⟩:=h
  rw [hr.2 ⟨a1,a2,a3⟩] at c
  rcases Wy c with c | c
  ·cases c
  ·have:=dt c; omega
 obtain ⟨c1,c2⟩:=vF c
 have c2:=df c2
 have hm:=hr.1 (by simpa using c1)
 refine Ok.ite (fun c=>?_) (fun c=>?_)
 ·have c:w=0:=by simpa using c
  refine Ok.ite (fun d=>Ok.some ⟨fun h=>(by cases h),fun h=>absurd (h.2.2.1 c) (xT d)⟩) (fun d=>Ok.some ⟨fun _=>⟨hm,by omega,fun _=>xI d,fun h=>by omega⟩,fun _=>rfl⟩)
 ·have c:w≠0:=by simpa using c
  refine Ok.bind (Q0 (w:=w) (by omega) (by omega)) ?_
  rintro _ rfl
  have hV:=Kk (s:=w.toNat) (t:=16) (by omega)
  have hV2:=Kk (s:=2) (t:=w.toNat) (by omega)
  have e16:(2:Int)^16=65536:=rfl
  have e2:(2:Int)^2=4:=rfl
  have k:wb .i64 (2^w.toNat-1)=2^w.toNat-1:=zY (by omega) (by omega)
  dsimp only
  rw [k]
  refine Ok.ite (fun d=>Ok.some ⟨fun h=>(by cases h),fun h=>?_⟩) (fun d=>?_)
  ·have:=h.2.2.2 (by omega); have:=dt d; omega
  ·have d:=df d
   have k2:=kw1 (x:=s) (by omega) (by omega)
   rw [k2]
   refine Ok.bind (Q0 (w:=s+1) (by omega) (by omega)) ?_
   rintro _ rfl
   refine Ok.bind (Un (by omega)) ?_
   intro v _
   exact Ok.some ⟨fun _=>⟨hm,by omega,fun h=>absurd h c,fun _=>by omega⟩,fun _=>rfl⟩
theorem WS (p0 p1 p2 p3 p4 p5 p6 p7 p8 p9:Int) {S:List (List Int)} (hf:Fit p0 p1 p2 p3 p4 p5 p6 p7 p8 p9 S):∃ C B z,Shr p0 p1 p2 p3 p4 p5 p6 p7 p8 p9 S C B z/\wh 5000 p0 p1 p2 p3 p4 p5 p6 p7 p8 p9 S=some (tabv (B*C) z):=by
 have h2:p2=1\/p2=2:=hf.1.1.2.2.2.1
 have h3:p3=4\/p3=8:=hf.1.1.2.2.2.2.1
 have hm:wG 5000 p0 p1 p2 p3 p4 p5 p6 p7 p8 p9 S=some 0:=by
  rcases KP p0 p1 p2 p3 p4 p5 p6 p7 p8 p9 S hf.1 with h | h
  ·exact h.1
  ·exact absurd hf h.2
 obtain ⟨a,b,_,_,hb,h4,h5,h6,h7,h8⟩:=XK hf hm p2.toNat p3.toNat (by omega) (by omega)
 obtain ⟨_,hr,rfl⟩:=Yr hf p2.toNat p3.toNat (by omega) (by omega) h8 ⟨hb,h4⟩
 exact ⟨_,_,_,⟨by omega,by omega,hf,h7,Xr _ _ _ _ _,Vu _ _ _ a b h4 h5,h6⟩,hr⟩
end Go.Fo
