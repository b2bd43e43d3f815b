/- What may be,says the document. -/
import Derived.Test.YtiihmaaobmpabaaGreatSfUc
import Derived.Test.YtiihmaaobmpabaaGreatSfEi
namespace Go.Fo
set_option maxRecDepth 6000
theorem KD {a b:Bool} (h:(bif a then true else b)=false):a=false/\b=false:=by cases a; exact ⟨rfl,h⟩; cases h
theorem Xu {a b:Bool} (h:(bif a then true else b)=true):a=true\/b=true:=by cases a; exact .inr h; exact .inl rfl
theorem Zi {x y:Int} (h:(x != y)=false):x=y:=by simpa using h
theorem Qw {x y:Int} (h:(x != y)=true):x≠y:=by simpa using h
theorem J8 (p0 p1 p2 p3 p4 p5 p6 p7 p8 p9:Int) (h:W5 p0 p1 p2 p3 p4 p5 p6 p7 p8 p9):Ok (fun r=>r=xH p2 p3 p4 p6 p7) (zK 5000 p0 p1 p2 p3 p4 p5 p6 p7 p8 p9):=by
 obtain ⟨q1,q2,q3,q4,q5,q6,q7,q8,_⟩:=prods p0 p1 p2 p3 p4 p5 p6 p7 p8 p9 h
 have h0:=h.1
 have h2:p2=1\/p2=2:=h.2.2.2.1
 have h6:p6=0\/(p6=1/\p2=2):=h.2.2.2.2.2.2.2.1
 have e:(p0==2)=false:=by rw [h0]; rfl
 refine Ok.ite (fun c=>by rw [e] at c; cases c) (fun _=>?_)
 dsimp only
 rw [zH (x:=p4*p7) (by omega) (by omega),zH (x:=32+p4*p7) (by omega) (by omega)]
 refine Ok.bind (Q:=fun r=>r=32+p4*p7+4*p3*p2) ?_ ?_
 ·unfold zK.l0
  refine wu (fun x c=>0<=c/\c<=p2/\x=32+p4*p7+4*p3*c) (fun _ c=>(p2-c).toNat) _ ?_ 5000 _ _ ⟨by omega,by omega,by rw [Int.mul_zero,Int.add_zero]⟩ (by omega)
  rintro next x c ⟨g1,g2,g3⟩ ih
  refine Ok.ite (fun d=>?_) (fun d=>Ok.some ?_)
  ·have d:=dt d
   have hm:4*p3*(c+1)=4*p3*c+4*p3:=by rw [Int.mul_add,Int.mul_one]
   have hc:c=0\/c=1:=by omega
   have e1:wa .i64 (4*p3)=4*p3:=zH (by omega) (by omega)
   have e2:wa .i64 (x+4*p3)=x+4*p3:=by rcases hc with rfl | rfl<;>exact zH (by omega) (by omega)
   have e3:=kw1 (x:=c) (by omega) (by omega)
   dsimp only
   rw [e1,e2,e3]
   exact ih _ _ ⟨by omega,by omega,by rw [hm]; omega⟩ (by omega)
  ·have d:=df d
   have:c=p2:=by omega
   rw [g3,this]
 ·rintro _ rfl
  refine Ok.bind (Q:=fun r=>r=xH p2 p3 p4 p6 p7) (Ok.ite (fun c=>?_) (fun c=>?_)) (fun r hr=>Ok.some hr)
  ·have c:p6=1:=by simpa using c
   refine Ok.some ?_
   show wa .i64 (32+p4*p7+4*p3*p2+p3)=_
   unfold xH
   rw [zH (by omega) (by omega),c,Int.one_mul]; omega
  ·have c:¬ p6=1:=by simpa using c
   refine Ok.some ?_
   have:p6=0:=by omega
   unfold xH
   rw [this,Int.zero_mul]; omega
theorem JQ (p0 p1 p2 p3 p4 p5 p6 p7 p8 p9:Int):Ok (fun r=>r=true↔yd p0 p1 p2 p3 p4 p5 p6 p7 p8 p9) (qy 5000 p0 p1 p2 p3 p4 p5 p6 p7 p8 p9):=by
 refine Ok.ite (fun c=>Ok.some ⟨fun h=>(by cases h),fun h=>?_⟩) (fun c=>?_)
 ·have a0:=h.1.1; have a8:=h.1.2.2.2.2.2.2.2.2.2.2.2.1; have a9:=h.1.2.2.2.2.2.2.2.2.2.2.2.2
  rw [a0,a8,a9] at c; cases c
 obtain ⟨c,k9⟩:=KD c
 obtain ⟨k0,k8⟩:=KD c
 have k0:=Zi k0; have k8:=Zi k8; have k9:=Zi k9
 refine Ok.ite (fun c=>Ok.some ⟨fun h=>(by cases h),fun h=>?_⟩) (fun c=>?_)
 ·have g:=h.1
  obtain ⟨_,a1,a2,a3,_,_,a5,_⟩:=g
  rcases Xu c with c | c
  ·rcases Xu c with c | c
   ·rcases Xu c with c | c
    ·rcases Xu c with c | c
     ·rcases Xu c with c | c
      ·have:=dt c; omega
      ·have:=dt c; omega
     ·have:=dt c; omega
    ·have:=dt c; omega
   ·have:=dt c; omega
  ·have:=dt c; omega
 obtain ⟨c,x6⟩:=KD c
 obtain ⟨c,x5⟩:=KD c
 obtain ⟨c,x4⟩:=KD c
 obtain ⟨c,x3⟩:=KD c
 obtain ⟨x1,x2⟩:=KD c
 have x1:=df x1; have x2:=df x2; have x3:=df x3; have x4:=df x4; have x5:=df x5; have x6:=df x6
 refine Ok.ite (fun c=>Ok.some ⟨fun h=>(by cases h),fun h=>?_⟩) (fun c=>?_)
 ·obtain ⟨_,_,_,_,a3,a4,_⟩:=h.1
  rcases Xu c with c | c
  ·obtain ⟨c1,c2⟩:=yx c
   have c1:=Qw c1; have c2:=Qw c2; omega
  ·obtain ⟨c,c4⟩:=yx c
   obtain ⟨c,c3⟩:=yx c
   obtain ⟨c1,c2⟩:=yx c
   have c1:=Qw c1; have c2:=Qw c2; have c3:=Qw c3; have c4:=Qw c4; omega
 obtain ⟨y3,y4⟩:=KD c
 have y3:p3=4\/p3=8:=by
  rcases Zp y3 with c | c
  ·exact .inl (Zi c)
  ·exact .inr (Zi c)
 have y4:p4=4\/p4=8\/p4=12\/p4=16:=by
  rcases Zp y4 with c | c
  ·rcases Zp c with c | c
   ·rcases Zp c with c | c
    ·exact .inl (Zi c)
    ·exact .inr (.inl (Zi c))
   ·exact .inr (.inr (.inl (Zi c)))
  ·exact .inr (.inr (.inr (Zi c)))
 refine Ok.ite (fun c=>Ok.some ⟨fun h=>(by cases h),fun h=>?_⟩) (fun c=>?_)
 ·obtain ⟨_,_,_,_,_,_,_,a6,_⟩:=h.1
  obtain ⟨c1,c2⟩:=yx c
  have c1:=Qw c1
  rcases Xu c2 with c | c
  ·have:=Qw c; omega
  ·have:=Qw c; omega
 have y6:p6=0\/(p6=1/\p2=2):=by
  rcases Zp c with c | c
  ·exact .inl (Zi c)
  ·obtain ⟨c1,c2⟩:=KD c
   exact .inr ⟨Zi c1,Zi c2⟩
 have k28:wa .i64 (wa .i64 (16*p3)*p2)=16*p3*p2:=by
  rw [zH (x:=16*p3) (by omega) (by omega)]
  rcases (show p2=1\/p2=2 by omega) with rfl | rfl<;>exact zH (by omega) (by omega)
 refine Ok.bind (Q:=fun r=>r=true↔yd p0 p1 p2 p3 p4 p5 p6 p7 p8 p9) ?_ (fun r hr=>Ok.some hr)
 dsimp only
 rw [k28]
 refine Ok.ite (fun c=>?_) (fun c=>Ok.some ⟨fun h=>(by cases h),fun h=>?_⟩)
 ·obtain ⟨c,c3⟩:=yx c
  obtain ⟨c1,c2⟩:=yx c
  have c1:=dt c1; have c2:=dt c2; have c3:=dt c3
  have hs:W5 p0 p1 p2 p3 p4 p5 p6 p7 p8 p9:=⟨k0,by omega,by omega,by omega,y3,y4,by omega,y6,c1,c2,c3,k8,k9⟩
  refine Ok.bind (J8 p0 p1 p2 p3 p4 p5 p6 p7 p8 p9 hs) ?_
  rintro _ rfl
  exact Ok.some ⟨fun h=>⟨hs,dt h⟩,fun h=>decide_eq_true h.2⟩
 ·obtain ⟨_,_,_,_,_,_,_,_,b1,b2,b3,_⟩:=h.1
  rw [decide_eq_true (by omega:p7>=2),decide_eq_true (by omega:p7<=250),decide_eq_true b3] at c
  cases c
theorem GL (p0 p1 p2 p3 p4 p5 p6 p7 p8 p9:Int) {S:List (List Int)} (hf:Fit p0 p1 p2 p3 p4 p5 p6 p7 p8 p9 S):∃ C B z,Shr p0 p1 p2 p3 p4 p5 p6 p7 p8 p9 S C B z/\wj 5000 p0 p1 p2 p3 p4 p5 p6 p7 p8 p9 S=some (tabv (B*C) z):=by
 have h2:p2=1\/p2=2:=hf.1.1.2.2.2.1
 have h3:p3=4\/p3=8:=hf.1.1.2.2.2.2.1
 have hm:wS 5000 p0 p1 p2 p3 p4 p5 p6 p7 p8 p9 S=some 0:=by
  rcases Ua p0 p1 p2 p3 p4 p5 p6 p7 p8 p9 S hf.1 with h | h
  ·exact h.1
  ·exact absurd hf h.2
 obtain ⟨a,b,_,_,hb,h4,h5,h6,h7,h8⟩:=YK hf hm p2.toNat p3.toNat (by omega) (by omega)
 obtain ⟨_,hr,rfl⟩:=Vb hf p2.toNat p3.toNat (by omega) (by omega) h8 ⟨hb,h4⟩
 exact ⟨_,_,_,⟨by omega,by omega,hf,h7,X7 _ _ _ _ _,Ub _ _ _ a b h4 h5,h6⟩,hr⟩
end Go.Fo
