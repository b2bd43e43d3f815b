/- The document's shares. -/
import Derived.Test.YtiihmaaobmpababGreatSaAo
import Derived.Test.YtiihmaaobmpababGreatSaOk
namespace Go.Fo
set_option maxRecDepth 6000
theorem kp1 {x:Int} (h0:-1000000000<=x) (h1:x<=1000000000):wb .i64 (x+1)=x+1:=zY (by omega) (by omega)
theorem JT {α:Type} (n:Nat) (f:Int->α->α) (a:α):itr (n+1) f a=f n (itr n f a):=rfl
theorem G0 (p0 p1 p2 p3 p4 p5 p6 p7 p8 p9 b:Int) (hr:0<=p1/\p1<=3) (hB:p3=4\/p3=8) (hb:0<=b/\b<p3):qb 5000 p0 p1 p2 p3 p4 p5 p6 p7 p8 p9 b=some (xq p1 p3 b):=by
 have h:((List.range 4).all fun r=>(List.range 8).all fun b=>(qb 5000 0 (r:Int) 0 8 0 0 0 0 0 0 (b:Int)==some (xq (r:Int) 8 (b:Int)))&&(qb 5000 0 (r:Int) 0 4 0 0 0 0 0 0 (b:Int)==some (xq (r:Int) 4 (b:Int))))=true:=by kernel_rfl
 have h:=List.all_eq_true.mp (List.all_eq_true.mp h p1.toNat (List.mem_range.mpr (by omega))) b.toNat (List.mem_range.mpr (by omega))
 rw [show ((p1.toNat:Nat):Int)=p1 by omega,show ((b.toNat:Nat):Int)=b by omega] at h
 have h:=Bool.and_eq_true_iff.mp h
 rcases hB with rfl | rfl
 ·exact beq_iff_eq.mp h.2
 ·exact beq_iff_eq.mp h.1
theorem UE (p0 p1 p2 p3 p4 p5 p6 p7 p8 p9 b s:Int) (hor:qb 5000 p0 p1 p2 p3 p4 p5 p6 p7 p8 p9 b=some (xq p1 p3 b)) (ho:-4<=xq p1 p3 b/\xq p1 p3 b<=2) (h5:p5=0\/p5=1) (hv:0<=s/\s<=15):Ok (fun x=>x=WI p1 p3 p5 s b) (
   bif (p5==0) then
    (qb 5000 p0 p1 p2 p3 p4 p5 p6 p7 p8 p9 b).bind fun r282=>
    let v283:=(wb .i64 (s-r282))
    let v284:=(decide (v283>0))
    (
     bif v284 then
      let v286:=(wb .i64 (Int.tdiv v283 2))
      some v286
     else
      some v283:Option (Int)).bind fun x285=>
     bif (s==0) then
      some (-5)
     else
      some x285
   else
    some s:Option (Int)):=by
  unfold WI
  rcases h5 with rfl | rfl
  · refine Ok.ite (fun _=>Ok.bind (Ok.is hor) ?_) (fun h=>by cases h)
    rintro _ rfl
    have e1:wb .i64 (s-xq p1 p3 b)=s-xq p1 p3 b:=zY (by omega) (by omega)
    dsimp only
    rw [e1]
    refine Ok.bind (Q:=fun x=>x=bif decide (s-xq p1 p3 b>0) then Int.tdiv (s-xq p1 p3 b) 2 else s-xq p1 p3 b) (Ok.ite (fun c=>Ok.some ?_) (fun c=>Ok.some ?_)) ?_
    · rw [c]
      show wb .i64 (Int.tdiv (s-xq p1 p3 b) 2)=Int.tdiv (s-xq p1 p3 b) 2
      have:=dt c
      rw [Int.tdiv_eq_ediv_of_nonneg (by omega)]
      exact zY (by omega) (by omega)
    · rw [c]; rfl
    · rintro _ rfl
      refine Ok.ite (fun c=>Ok.some ?_) (fun c=>Ok.some ?_)
      · rw [c]; rfl
      · rw [c]; rfl
  · exact Ok.ite (fun h=>by cases h) (fun _=>Ok.some rfl)
theorem X8 {p0 p1 p2 p3 p4 p5 p6 p7 p8 p9:Int} {l:List (List Int)} (hf:Fit p0 p1 p2 p3 p4 p5 p6 p7 p8 p9 l) (C B:Nat) (hC:(C:Int)=p2) (hB:(B:Int)=p3):Ok (fun r=>r=tabv (B*C) (hN p0 p1 p2 p3 p4 p5 p6 p7 p8 p9 l)) (zc 5000 p0 p1 p2 p3 p4 p5 p6 p7 p8 p9 l):=by
 have h2:=(fit hf).2.1
 have h3:=(fit hf).2.2.1
 have hl:=hf.2.1
 refine Ok.bind (Q:=fun r=>r=tabv (B*C) (hN p0 p1 p2 p3 p4 p5 p6 p7 p8 p9 l)) ?_ (fun r hr=>Ok.some hr)
 unfold zc.l0
 refine wA (fun b r=>0<=b/\b<=p3/\r=tabv (b.toNat*C) (hN p0 p1 p2 p3 p4 p5 p6 p7 p8 p9 l)) (fun b _=>(p3-b).toNat) _ ?_ 5000 _ _ ⟨by omega,by omega,by rw [show Int.toNat 0*C=0 by simp]; rfl⟩ (by omega)
 rintro next b r ⟨g1,g2,g3⟩ ih
 refine Ok.ite (fun d=>?_) (fun d=>Ok.some ?_)
 ·have d:=dt d
  refine Ok.bind (Q:=fun r=>r=tabv ((b.toNat+1)*C) (hN p0 p1 p2 p3 p4 p5 p6 p7 p8 p9 l)) ?_ ?_
  ·unfold zc.l1
   refine wA (fun c r=>0<=c/\c<=p2/\r=tabv (b.toNat*C+c.toNat) (hN p0 p1 p2 p3 p4 p5 p6 p7 p8 p9 l)) (fun c _=>(p2-c).toNat) _ ?_ 5000 _ _ ⟨by omega,by omega,by rw [g3]; rfl⟩ (by omega)
   rintro next2 c r ⟨f1,f2,f3⟩ ih2
   refine Ok.ite (fun d2=>?_) (fun d2=>Ok.some ?_)
   ·have d2:=dt d2
    have hr:=hf.2.2 c f1 d2
    have hv:=hr.2 b g1 d
    have hoff:=VC p0 p1 p2 p3 p4 p5 p6 p7 p8 p9 b (fit hf).1 h3 ⟨g1,d⟩
    have hor:=G0 p0 p1 p2 p3 p4 p5 p6 p7 p8 p9 b (fit hf).1 h3 ⟨g1,d⟩
    have hrl:((row l c).length:Int)=p3:=hr.1
    refine Ok.gd ⟨f1,by omega,g1,by show b<((row l c).length:Int); omega⟩ ?_
    refine Ok.bind (Q:=fun x=>x=nd p0 p1 p2 p3 p4 p5 p6 p7 p8 p9 l c b) (UE p0 p1 p2 p3 p4 p5 p6 p7 p8 p9 b _ hor hoff.2 (fit hf).2.2.2 hv) ?_
    rintro _ rfl
    have e:=kp1 (x:=c) (by omega) (by omega)
    have hlen:(r.length:Int)<=100:=by
     rw [f3,kT]
     have:b.toNat<=7:=by omega
     rcases (show C=1\/C=2 by omega) with rfl | rfl<;>omega
    refine Ok.gd (by show ((r.length:Int)+1)*8<=_; omega) ?_
    refine ih2 _ _ ⟨by omega,by omega,?_⟩ (by omega)
    have hh:=uV (p0:=p0) (p1:=p1) (p2:=p2) (p3:=p3) (p4:=p4) (p5:=p5) (p6:=p6) (p7:=p7) (p8:=p8) (p9:=p9) (l:=l) b.toNat c.toNat C hC (by omega)
    rw [show ((b.toNat:Nat):Int)=b by omega,show ((c.toNat:Nat):Int)=c by omega] at hh
    rw [e,show (c+1).toNat=c.toNat+1 by omega,f3,<-Nat.add_assoc]
    exact Xf _ _ hh.symm
   ·have d2:=df d2
    rw [f3,show c.toNat=C by omega,Nat.add_mul,Nat.one_mul]
  ·rintro _ rfl
   have e:=kp1 (x:=b) (by omega) (by omega)
   refine ih _ _ ⟨by omega,by omega,?_⟩ (by omega)
   rw [e,show (b+1).toNat=b.toNat+1 by omega]
 ·have d:=df d
  rw [g3,show b.toNat=B by omega]
end Go.Fo
