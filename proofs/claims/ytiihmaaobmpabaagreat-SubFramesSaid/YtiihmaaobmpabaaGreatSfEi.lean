/- Frames that come back. -/
import Derived.Test.YtiihmaaobmpabaaGreatSfEe
namespace Go.Fo
set_option maxRecDepth 6000
theorem HO (b:Int) (h0:0<=b) (h1:b<=9000):Ok (fun r=>r=8*((b+7)/8)) (zJ.l0 5000 5000 b):=by
 unfold zJ.l0
 refine ko (fun x=>b<=x/\x<=8*((b+7)/8)) (fun x=>(8*((b+7)/8)-x).toNat) _ ?_ 5000 _ ⟨by omega,by omega⟩ (by omega)
 rintro next x ⟨g1,g2⟩ ih
 refine Ok.ite (fun d=>?_) (fun d=>Ok.some ?_)
 ·have d:Int.tmod x 8≠0:=by simpa using d
  rw [Int.tmod_eq_emod_of_nonneg (by omega)] at d
  have e:=kw1 (x:=x) (by omega) (by omega)
  exact ih _ ⟨by omega,by omega⟩ (by omega)
 ·have d:Int.tmod x 8=0:=by simpa using d
  rw [Int.tmod_eq_emod_of_nonneg (by omega)] at d
  omega
theorem Vy (p0 p1 p2 p3 p4 p5 p6 p7 p8 p9:Int) (h:W5 p0 p1 p2 p3 p4 p5 p6 p7 p8 p9):Ok (fun r=>r=vn p2 p3 p4 p6 p7) (zJ 5000 p0 p1 p2 p3 p4 p5 p6 p7 p8 p9):=by
 have hb:=WO p0 p1 p2 p3 p4 p5 p6 p7 p8 p9 h
 obtain ⟨q1,q2,q3,q4,q5,q6,q7,q8,_⟩:=prods p0 p1 p2 p3 p4 p5 p6 p7 p8 p9 h
 have h0:=h.1
 have h2:p2=1\/p2=2:=h.2.2.2.1
 have h6:p6=0\/(p6=1/\p2=2):=h.2.2.2.2.2.2.2.1
 have e:(p0==2)=false:=by rw [h0]; rfl
 refine Ok.ite (fun c=>by rw [e] at c; cases c) (fun _=>Ok.bind (Q:=fun r=>r=xH p2 p3 p4 p6 p7) ?_ ?_)
 ·refine Ok.ite (fun c=>by rw [e] at c; cases c) (fun _=>?_)
  dsimp only
  rw [zH (x:=p4*p7) (by omega) (by omega),zH (x:=32+p4*p7) (by omega) (by omega)]
  refine Ok.bind (Q:=fun r=>r=32+p4*p7+4*p3*p2) ?_ ?_
  ·unfold zK.l0
   refine wu (fun x c=>0<=c/\c<=p2/\x=32+p4*p7+4*p3*c) (fun _ c=>(p2-c).toNat) _ ?_ 5000 _ _ ⟨by omega,by omega,by rw [Int.mul_zero,Int.add_zero]⟩ (by omega)
   rintro next x c ⟨g1,g2,g3⟩ ih
   refine Ok.ite (fun d=>?_) (fun d=>Ok.some ?_)
   ·have d:=dt d
    have hm:4*p3*(c+1)=4*p3*c+4*p3:=by rw [Int.mul_add,Int.mul_one]
    have hc:c=0\/c=1:=by omega
    have e1:wa .i64 (4*p3)=4*p3:=zH (by omega) (by omega)
    have e2:wa .i64 (x+4*p3)=x+4*p3:=by rcases hc with rfl | rfl<;>exact zH (by omega) (by omega)
    have e3:=kw1 (x:=c) (by omega) (by omega)
    dsimp only
    rw [e1,e2,e3]
    exact ih _ _ ⟨by omega,by omega,by rw [hm]; omega⟩ (by omega)
   ·have d:=df d
    have:c=p2:=by omega
    rw [g3,this]
  ·rintro _ rfl
   refine Ok.bind (Q:=fun r=>r=xH p2 p3 p4 p6 p7) (Ok.ite (fun c=>?_) (fun c=>?_)) (fun r hr=>Ok.some hr)
   ·have c:p6=1:=by simpa using c
    refine Ok.some ?_
    show wa .i64 (32+p4*p7+4*p3*p2+p3)=_
    unfold xH
    rw [zH (by omega) (by omega),c,Int.one_mul]; omega
   ·have c:¬ p6=1:=by simpa using c
    refine Ok.some ?_
    have:p6=0:=by omega
    unfold xH
    rw [this,Int.zero_mul]; omega
 ·rintro _ rfl
  refine Ok.bind (HO _ (by omega) (by omega)) ?_
  rintro _ rfl
  refine Ok.some ?_
  show wa .i64 (Int.tdiv (8*((xH p2 p3 p4 p6 p7+7)/8)) 8)=_
  rw [Int.tdiv_eq_ediv_of_nonneg (by omega),zH (by omega) (by omega)]
  unfold vn; omega
end Go.Fo
