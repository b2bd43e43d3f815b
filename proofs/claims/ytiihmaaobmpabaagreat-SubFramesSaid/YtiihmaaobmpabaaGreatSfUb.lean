/- The document's shares. -/
import Derived.Test.YtiihmaaobmpabaaGreatSfAo
import Derived.Test.YtiihmaaobmpabaaGreatSfOk
namespace Go.Fo
set_option maxRecDepth 6000
theorem kp1 {x:Int} (h0:-1000000000<=x) (h1:x<=1000000000):wa .i64 (x+1)=x+1:=zH (by omega) (by omega)
theorem YT {α:Type} (n:Nat) (f:Int->α->α) (a:α):itr (n+1) f a=f n (itr n f a):=rfl
theorem MS (p0 p1 p2 p3 p4 p5 p6 p7 p8 p9 b:Int) (hr:0<=p1/\p1<=3) (hB:p3=4\/p3=8) (hb:0<=b/\b<p3):qh 5000 p0 p1 p2 p3 p4 p5 p6 p7 p8 p9 b=some (xI p1 p3 b):=by
 have h:((List.range 4).all fun r=>(List.range 8).all fun b=>(qh 5000 0 (r:Int) 0 8 0 0 0 0 0 0 (b:Int)==some (xI (r:Int) 8 (b:Int)))&&(qh 5000 0 (r:Int) 0 4 0 0 0 0 0 0 (b:Int)==some (xI (r:Int) 4 (b:Int))))=true:=by kernel_rfl
 have h:=List.all_eq_true.mp (List.all_eq_true.mp h p1.toNat (List.mem_range.mpr (by omega))) b.toNat (List.mem_range.mpr (by omega))
 rw [show ((p1.toNat:Nat):Int)=p1 by omega,show ((b.toNat:Nat):Int)=b by omega] at h
 have h:=Bool.and_eq_true_iff.mp h
 rcases hB with rfl | rfl
 ·exact beq_iff_eq.mp h.2
 ·exact beq_iff_eq.mp h.1
theorem GR (p0 p1 p2 p3 p4 p5 p6 p7 p8 p9 b s:Int) (hor:qh 5000 p0 p1 p2 p3 p4 p5 p6 p7 p8 p9 b=some (xI p1 p3 b)) (ho:-4<=xI p1 p3 b/\xI p1 p3 b<=2) (h5:p5=0\/p5=1) (hv:0<=s/\s<=15):Ok (fun x=>x=Zq p1 p3 p5 s b) (
   bif (p5==0) then
    (qh 5000 p0 p1 p2 p3 p4 p5 p6 p7 p8 p9 b).bind fun r282=>
    let v283:=(wa .i64 (s-r282))
    let v284:=(decide (v283>0))
    (
     bif v284 then
      let v286:=(wa .i64 (Int.tdiv v283 2))
      some v286
     else
      some v283:Option (Int)).bind fun x285=>
     bif (s==0) then
      some (-5)
     else
      some x285
   else
    some s:Option (Int)):=by
  unfold Zq
  rcases h5 with rfl | rfl
  · refine Ok.ite (fun _=>Ok.bind (Ok.is hor) ?_) (fun h=>by cases h)
    rintro _ rfl
    have e1:wa .i64 (s-xI p1 p3 b)=s-xI p1 p3 b:=zH (by omega) (by omega)
    dsimp only
    rw [e1]
    refine Ok.bind (Q:=fun x=>x=bif decide (s-xI p1 p3 b>0) then Int.tdiv (s-xI p1 p3 b) 2 else s-xI p1 p3 b) (Ok.ite (fun c=>Ok.some ?_) (fun c=>Ok.some ?_)) ?_
    · rw [c]
      show wa .i64 (Int.tdiv (s-xI p1 p3 b) 2)=Int.tdiv (s-xI p1 p3 b) 2
      have:=dt c
      rw [Int.tdiv_eq_ediv_of_nonneg (by omega)]
      exact zH (by omega) (by omega)
    · rw [c]; rfl
    · rintro _ rfl
      refine Ok.ite (fun c=>Ok.some ?_) (fun c=>Ok.some ?_)
      · rw [c]; rfl
      · rw [c]; rfl
  · exact Ok.ite (fun h=>by cases h) (fun _=>Ok.some rfl)
theorem Ve {p0 p1 p2 p3 p4 p5 p6 p7 p8 p9:Int} {l:List (List Int)} (hf:Fit p0 p1 p2 p3 p4 p5 p6 p7 p8 p9 l) (C B:Nat) (hC:(C:Int)=p2) (hB:(B:Int)=p3):Ok (fun r=>r=tabv (B*C) (hN p0 p1 p2 p3 p4 p5 p6 p7 p8 p9 l)) (zh 5000 p0 p1 p2 p3 p4 p5 p6 p7 p8 p9 l):=by
 have h2:=(fit hf).2.1
 have h3:=(fit hf).2.2.1
 have hl:=hf.2.1
 refine Ok.bind (Q:=fun r=>r=tabv (B*C) (hN p0 p1 p2 p3 p4 p5 p6 p7 p8 p9 l)) ?_ (fun r hr=>Ok.some hr)
 unfold zh.l0
 refine wu (fun b r=>0<=b/\b<=p3/\r=tabv (b.toNat*C) (hN p0 p1 p2 p3 p4 p5 p6 p7 p8 p9 l)) (fun b _=>(p3-b).toNat) _ ?_ 5000 _ _ ⟨by omega,by omega,by rw [show Int.toNat 0*C=0 by simp]; rfl⟩ (by omega)
 rintro next b r ⟨g1,g2,g3⟩ ih
 refine Ok.ite (fun d=>?_) (fun d=>Ok.some ?_)
 ·have d:=dt d
  refine Ok.bind (Q:=fun r=>r=tabv ((b.toNat+1)*C) (hN p0 p1 p2 p3 p4 p5 p6 p7 p8 p9 l)) ?_ ?_
  ·unfold zh.l1
   refine wu (fun c r=>0<=c/\c<=p2/\r=tabv (b.toNat*C+c.toNat) (hN p0 p1 p2 p3 p4 p5 p6 p7 p8 p9 l)) (fun c _=>(p2-c).toNat) _ ?_ 5000 _ _ ⟨by omega,by omega,by rw [g3]; rfl⟩ (by omega)
   rintro next2 c r ⟨f1,f2,f3⟩ ih2
   refine Ok.ite (fun d2=>?_) (fun d2=>Ok.some ?_)
   ·have d2:=dt d2
    have hr:=hf.2.2 c f1 d2
    have hv:=hr.2 b g1 d
    have hoff:=ut p0 p1 p2 p3 p4 p5 p6 p7 p8 p9 b (fit hf).1 h3 ⟨g1,d⟩
    have hor:=MS p0 p1 p2 p3 p4 p5 p6 p7 p8 p9 b (fit hf).1 h3 ⟨g1,d⟩
    have hrl:((row l c).length:Int)=p3:=hr.1
    refine Ok.gd ⟨f1,by omega,g1,by show b<((row l c).length:Int); omega⟩ ?_
    refine Ok.bind (Q:=fun x=>x=nd p0 p1 p2 p3 p4 p5 p6 p7 p8 p9 l c b) (GR p0 p1 p2 p3 p4 p5 p6 p7 p8 p9 b _ hor hoff.2 (fit hf).2.2.2 hv) ?_
    rintro _ rfl
    have e:=kp1 (x:=c) (by omega) (by omega)
    have hlen:(r.length:Int)<=100:=by
     rw [f3,jJ]
     have:b.toNat<=7:=by omega
     rcases (show C=1\/C=2 by omega) with rfl | rfl<;>omega
    refine Ok.gd (by show ((r.length:Int)+1)*8<=_; omega) ?_
    refine ih2 _ _ ⟨by omega,by omega,?_⟩ (by omega)
    have hh:=gU (p0:=p0) (p1:=p1) (p2:=p2) (p3:=p3) (p4:=p4) (p5:=p5) (p6:=p6) (p7:=p7) (p8:=p8) (p9:=p9) (l:=l) b.toNat c.toNat C hC (by omega)
    rw [show ((b.toNat:Nat):Int)=b by omega,show ((c.toNat:Nat):Int)=c by omega] at hh
    rw [e,show (c+1).toNat=c.toNat+1 by omega,f3,<-Nat.add_assoc]
    exact X5 _ _ hh.symm
   ·have d2:=df d2
    rw [f3,show c.toNat=C by omega,Nat.add_mul,Nat.one_mul]
  ·rintro _ rfl
   have e:=kp1 (x:=b) (by omega) (by omega)
   refine ih _ _ ⟨by omega,by omega,?_⟩ (by omega)
   rw [e,show (b+1).toNat=b.toNat+1 by omega]
 ·have d:=df d
  rw [g3,show b.toNat=B by omega]
theorem yx {a b:Bool} (h:(bif a then b else false)=true):a=true/\b=true:=by cases a; cases h; exact ⟨rfl,h⟩
theorem Zp {a b:Bool} (h:(bif a then b else false)=false):a=false\/b=false:=by cases a; exact .inl rfl; exact .inr h
theorem Vo {h:Int->Int} {N:Nat} {s:Int} (hN:N<=16) (hr:∀ i:Int,0<=i->i<N->-5<=h i/\h i<=15) (hs:-1000<=s/\s<=1000):Ok (fun r=>r=cst h N s) (qd 5000 (tabv N h) s):=by
 have hl:=jJ N h
 refine Ok.bind (Q:=fun r=>r=cst h N s) ?_ (fun r hr=>Ok.some hr)
 unfold qd.l0
 refine wu (fun a i=>0<=i/\i<=(N:Int)/\a=itr i.toNat (fun i a=>a+wt (h i-s)) 0) (fun _ i=>((N:Int)-i).toNat) _ ?_ 5000 _ _ ⟨by omega,by omega,rfl⟩ (by omega)
 rintro next a i ⟨g1,g2,g3⟩ ih
 refine Ok.ite (fun d=>?_) (fun d=>Ok.some ?_)
 ·have d:=dt d
  have d:i<(N:Int):=by rw [hl] at d; exact d
  have hv:=hr i g1 d
  have ha:=Yl h s i.toNat
  rw [<-g3] at ha
  have hat:Kd.nth (.int .i64) (tabv N h) (Int.toNat i)=h i:=yT N h i g1 d
  have k1:=kp1 (x:=s) (by omega) (by omega)
  have k2:wa .i64 (s+16)=s+16:=zH (by omega) (by omega)
  refine Ok.bind (Q:=fun x=>x=a+wt (h i-s)) ?_ ?_
  ·refine Ok.gd ⟨g1,by rw [hl]; exact d⟩ ?_
   dsimp only
   rw [hat,k1,k2]
   refine Ok.bind (Q:=fun x=>x=if h i=s+1 then a+2 else a) (Ok.ite (fun c=>Ok.some ?_) (fun c=>Ok.some ?_)) ?_
   ·rw [if_pos (by simpa using c)]; exact zH (by omega) (by omega)
   ·rw [if_neg (by simpa using c)]
   ·rintro _ rfl
    refine Ok.gd ⟨g1,by rw [hl]; exact d,fun _=>g1,fun _=>by rw [hl]; exact d⟩ (Ok.ite (fun c=>Ok.some ?_) (fun c=>Ok.some ?_))
    ·obtain ⟨c1,c2⟩:=yx c
     have c1:h i>s+1:=dt c1
     have c2:h i<s+16:=dt c2
     rw [if_neg (by omega),zH (by omega) (by omega)]
     unfold wt
     rw [show (h i-s==1)=false by simp; omega,decide_eq_true (by omega:h i-s>1),decide_eq_true (by omega:h i-s<16)]; rfl
    ·unfold wt
     by_cases e:h i=s+1
     ·rw [if_pos e,show (h i-s==1)=true by simp; omega]; rfl
     ·rw [if_neg e,show (h i-s==1)=false by simp; omega]
      rcases Zp c with c | c
      ·have c:¬ h i>s+1:=df c
       rw [decide_eq_false (by omega:¬ h i-s>1)]
       show a=a+0; omega
      ·have c:¬ h i<s+16:=df c
       rw [decide_eq_false (by omega:¬ h i-s<16)]
       cases decide (h i-s>1)<;>(show a=a+0; omega)
  ·rintro _ rfl
   have e:=kp1 (x:=i) (by omega) (by omega)
   refine ih _ _ ⟨by omega,by omega,?_⟩ (by omega)
   rw [e,show (i+1).toNat=i.toNat+1 by omega,YT,<-g3,show ((i.toNat:Nat):Int)=i by omega]
 ·have d:=df d
  rw [hl] at d
  rw [g3,show i.toNat=N by omega]; rfl
theorem Gh {h:Int->Int} {N:Nat} (hN:N<=16) (h0:1<=N) (hr:∀ i:Int,0<=i->i<N->-5<=h i/\h i<=15) (p0 p1 p2 p3 p4 p5 p6 p7 p8 p9:Int):Ok (fun r=>(∀ i:Int,0<=i->i<N->h i<=r)/\-5<=r/\r<=15) (wj.l4 5000 (tabv N h) p0 p1 p2 p3 p4 p5 p6 p7 p8 p9 5000 (Kd.nth (.int .i64) (tabv N h) 0) 1):=by
 have hl:=jJ N h
 have hz:Kd.nth (.int .i64) (tabv N h) 0=h 0:=yT N h 0 (by omega) (by omega)
 have h00:=hr 0 (by omega) (by omega)
 unfold wj.l4
 refine wu (fun a i=>1<=i/\i<=(N:Int)/\(∀ j:Int,0<=j->j<i->h j<=a)/\-5<=a/\a<=15) (fun _ i=>((N:Int)-i).toNat) _ ?_ 5000 _ _ ⟨by omega,by omega,fun j j0 j1=>by rw [show j=0 by omega,hz]; exact Int.le_refl _,by rw [hz]; exact h00.1,by rw [hz]; exact h00.2⟩ (by omega)
 rintro next a i ⟨g1,g2,g3,g4,g5⟩ ih
 refine Ok.ite (fun d=>?_) (fun d=>Ok.some ⟨fun j j0 j1=>g3 j j0 (by have:=df d; rw [hl] at this; omega),g4,g5⟩)
 have d:=dt d
 rw [hl] at d
 have hv:=hr i (by omega) d
 have hat:Kd.nth (.int .i64) (tabv N h) (Int.toNat i)=h i:=yT N h i (by omega) d
 have e:=kp1 (x:=i) (by omega) (by omega)
 refine Ok.gd ⟨by omega,by rw [hl]; exact d⟩ ?_
 dsimp only
 rw [hat,e]
 refine ih _ _ ⟨by omega,by omega,fun j j0 j1=>?_,?_,?_⟩ (by omega)
 ·by_cases q:j<i
  ·have:=g3 j j0 q
   unfold imax; split<;>omega
  ·rw [show j=i by omega]; unfold imax; split<;>omega
 ·unfold imax; split<;>omega
 ·unfold imax; split<;>omega
theorem Gf {h:Int->Int} {N:Nat} (hN:N<=16) (hr:∀ i:Int,0<=i->i<N->-5<=h i/\h i<=15) (p0 p1 p2 p3 p4 p5 p6 p7 p8 p9:Int) (hp:1<=p7/\p7<=16*N) {mx:Int} (hm:∀ i:Int,0<=i->i<N->h i<=mx) (hm2:-5<=mx/\mx<=15):Ok (fun r=>r.2.1=tot h N r.1/\r.2.2=cst h N r.1/\tot h N r.1<p7/\p7<=tot h N r.1+cst h N r.1/\-30<=r.1/\r.1<=15) (wj.l3 5000 (tabv N h) p0 p1 p2 p3 p4 p5 p6 p7 p8 p9 5000 (mx+1) 0 0):=by
 have ht0:=Qo h mx N hm
 unfold wj.l3
 refine qD (fun s u v=>-22<=s-1/\s<=16/\u+v=tot h N (s-1)/\tot h N (s-1)<p7) (fun s _ _=>(s+40).toNat) _ ?_ 5000 _ _ _ ⟨by omega,by omega,by rw [show mx+1-1=mx by omega,ht0]; rfl,by rw [show mx+1-1=mx by omega,ht0]; omega⟩ (by omega)
 rintro next s u v ⟨g1,g2,g3,g4⟩ ih
 have t1:=ZL h (s-1) N
 have r1:=Jf h N (s-1)
 have r2:=QM h N (s-1)
 have e1:wa .i64 (s-1)=s-1:=zH (by omega) (by omega)
 have e2:wa .i64 (u+v)=tot h N (s-1):=by rw [g3]; exact zH (by omega) (by omega)
 unfold wj.r3
 dsimp only
 rw [e1,e2]
 refine Ok.bind (Vo hN hr (by omega)) ?_
 rintro _ rfl
 rw [zH (x:=tot h N (s-1)+cst h N (s-1)) (by omega) (by omega)]
 refine Ok.ite (fun c=>Ok.some ⟨rfl,rfl,g4,dt c,by show -30<=s-1; omega,by show s-1<=15; omega⟩) (fun c=>?_)
 have c:=df c
 have h3:-21<=s-1:=by
  by_cases q:s-1<=-21
  ·have:=Zz h N (s-1) hr q; omega
  ·omega
 exact ih _ _ _ ⟨by omega,by omega,by rw [t1],by rw [t1]; omega⟩ (by omega)
theorem Z9 (h:Int->Int) (N:Nat) (s:Int):∀ k:Nat,tot h N s<=tot h N (s-k)
 | 0=>by rw [show s-((0:Nat):Int)=s by omega]; exact Int.le_refl _
 | k+1=>by
  have ih:=Z9 h N s k
  have t:=ZL h (s-k) N
  have r:=QM h N (s-k)
  rw [show s-((k+1:Nat):Int)=s-k-1 by omega,t]; omega
theorem GO {h:Int->Int} {N:Nat} {pool s t:Int} (h1:tot h N s<pool) (h2:pool<=tot h N s+cst h N s) (k1:tot h N t<pool) (k2:pool<=tot h N t+cst h N t):s=t:=by
 have a:=ZL h s N
 have b:=ZL h t N
 by_cases c:s<t
 ·have:=Z9 h N (t-1) (t-1-s).toNat
  rw [show t-1-((t-1-s).toNat:Int)=s by omega] at this
  omega
 ·by_cases c2:t<s
  ·have:=Z9 h N (s-1) (s-1-t).toNat
   rw [show s-1-((s-1-t).toNat:Int)=t by omega] at this
   omega
  ·omega
theorem GX {h:Int->Int} {N:Nat} (hN:N<=16) (hr:∀ i:Int,0<=i->i<N->-5<=h i/\h i<=15) {s:Int} (hs:-1000<=s/\s<=1000) (b:Int) (p0 p1 p2 p3 p4 p5 p6 p7 p8 p9:Int):Ok (fun r=>r=tabv N (itr N (sset h s) (b,fun _=>0)).2) (wj.l2 5000 (tabv N h) s b p0 p1 p2 p3 p4 p5 p6 p7 p8 p9 5000 0 (tabv N (fun _=>0))):=by
 have hl:=jJ N h
 unfold wj.l2
 refine wu (fun i r=>0<=i/\i<=(N:Int)/\r=tabv N (itr i.toNat (sset h s) (b,fun _=>0)).2) (fun i _=>((N:Int)-i).toNat) _ ?_ 5000 _ _ ⟨by omega,by omega,rfl⟩ (by omega)
 rintro next i r ⟨g1,g2,rfl⟩ ih
 refine Ok.ite (fun d=>?_) (fun d=>Ok.some ?_)
 ·have d:=dt d
  rw [hl] at d
  have hv:=hr i g1 d
  have hat:Kd.nth (.int .i64) (tabv N h) (Int.toNat i)=h i:=yT N h i g1 d
  have k2:wa .i64 (s+2)=s+2:=zH (by omega) (by omega)
  have k3:wa .i64 (h i-s)=h i-s:=zH (by omega) (by omega)
  have hll:=fun g:Int->Int=>jJ N g
  refine Ok.bind (Q:=fun r=>r=tabv N (itr (i.toNat+1) (sset h s) (b,fun _=>0)).2) ?_ ?_
  ·refine Ok.gd ⟨g1,by rw [hl]; exact d⟩ ?_
   dsimp only
   rw [hat,k2,k3]
   have e:(itr (i.toNat+1) (sset h s) (b,fun _=>0)).2=if h i>=s+2 then upd (itr i.toNat (sset h s) (b,fun _=>0)).2 i (imin (h i-s) 16) else (itr i.toNat (sset h s) (b,fun _=>0)).2:=by
    rw [YT]
    unfold sset
    rw [show ((i.toNat:Nat):Int)=i by omega]
   refine Ok.ite (fun c=>Ok.gd ⟨g1,by rw [hl]; exact d,g1,by rw [hll]; exact d,by rw [hll]; omega⟩ (Ok.some ?_)) (fun c=>Ok.some ?_)
   ·rw [e,if_pos (dt c),WA,show ((i.toNat:Nat):Int)=i by omega]; rfl
   ·rw [e,if_neg (df c)]
  ·rintro _ rfl
   have e:=kp1 (x:=i) (by omega) (by omega)
   refine ih _ _ ⟨by omega,by omega,?_⟩ (by omega)
   rw [e,show (i+1).toNat=i.toNat+1 by omega]
 ·have d:=df d
  rw [hl] at d
  rw [show i.toNat=N by omega]
end Go.Fo
