/- Planes are analysed as the document says,and parameters are planes as the document says: the law. -/
import Derived.Test.YtiihmaaobmpababGreatSaXc
import Derived.Test.YtiihmaaobmpababGreatSaUe
namespace Go.Fo
set_option maxRecDepth 6000
theorem Vq (p0 p1 p2 p3 p4 p5 p6 p7 p8 p9:Int) {X:List (List Int)} (hX:X.length<=40):Ok (fun r=>r=true↔Sh p4 p3 X) (kX 5000 X p0 p1 p2 p3 p4 p5 p6 p7 p8 p9):=by
 refine Ok.bind (Q:=fun r=>r=true↔Sh p4 p3 X) ?_ (fun r hr=>Ok.some hr)
 refine Ok.bind (Q:=fun r=>r=true↔Sh p4 p3 X) ?_ (fun r hr=>Ok.some hr)
 refine Ok.ite (fun c=>?_) (fun c=>Ok.some ⟨fun h=>(by cases h),fun h=>by rw [beq_eq_false_iff_ne] at c; exact absurd h.1 c⟩)
 have c:(X.length:Int)=p4:=by simpa using c
 refine Ok.bind (Q:=fun r=>r=false↔Sh p4 p3 X) ?_ (fun r hr=>Ok.some (by rw [<-hr]; simp))
 refine Ok.bind (Q:=fun r=>r<0↔Sh p4 p3 X) ?_ (fun r hr=>Ok.some (by rw [<-hr,decide_eq_false_iff_not]; omega))
 refine Ok.bind (Q:=fun z=>match z with | .inl _=>Sh p4 p3 X | .inr i=>0<=i/\¬ Sh p4 p3 X) ?_ ?_
 ·unfold wX.l0
  refine w5 (fun i=>0<=i/\i<=(X.length:Int)/\∀ q,0<=q->q<i->((row X q).length:Int)=p3) (fun i=>((X.length:Int)-i).toNat) _ ?_ 5000 _ ⟨by omega,by omega,fun q _ _=>by omega⟩ (by omega)
  rintro next i ⟨h1,h2,h3⟩ ih
  refine Ok.ite (fun d=>?_) (fun d=>Ok.some ⟨c,fun q q0 q1=>h3 q q0 (by have:=df d; omega)⟩)
  have d:=dt d
  refine Ok.gd ⟨h1,d⟩ (Ok.bind (Q:=fun r=>r=false↔((row X i).length:Int)=p3) (Ok.bind (Q:=fun r=>r=true↔((row X i).length:Int)=p3) (Ok.some (by show (((row X i).length:Int)==p3)=true↔_; rw [beq_iff_eq])) (fun r hr=>Ok.some (by rw [<-hr]; simp))) ?_)
  intro r hr
  refine Ok.ite (fun c2=>Ok.some ⟨h1,fun hj=>?_⟩) (fun c2=>?_)
  ·have:=hr.2 (hj.2 i h1 (by omega))
   rw [c2] at this; cases this
  ·have e:=kw1 (x:=i) (by omega) (by omega)
   refine ih _ ⟨by omega,by omega,fun q q0 q1=>?_⟩ (by omega)
   by_cases e2:q=i
   ·rw [e2]; exact hr.1 c2
   ·exact h3 q q0 (by omega)
 ·intro z hz
  cases z with
  | inl u=>exact Ok.some ⟨fun _=>hz,fun _=>by decide⟩
  | inr i=>exact Ok.some ⟨fun h=>by have:0<=i:=hz.1; omega,fun h=>absurd h hz.2⟩
theorem VP (p0 p1 p2 p3 p4 p5 p6 p7 p8 p9:Int) {P:List (List (List Int))} (hL:P.length<=10) (hB:∀ i,0<=i->i<(P.length:Int)->(blk P i).length<=40):Ok (fun r=>r=true↔Cd p2 p4 p3 P) (jJ 5000 p0 p1 p2 p3 p4 p5 p6 p7 p8 p9 P):=by
 refine Ok.bind (Q:=fun r=>r=true↔Cd p2 p4 p3 P) ?_ (fun r hr=>Ok.some hr)
 refine Ok.bind (Q:=fun r=>r=true↔Cd p2 p4 p3 P) ?_ (fun r hr=>Ok.some hr)
 refine Ok.ite (fun c=>?_) (fun c=>Ok.some ⟨fun h=>(by cases h),fun h=>by rw [beq_eq_false_iff_ne] at c; exact absurd h.1 c⟩)
 have c:(P.length:Int)=p2:=by simpa using c
 refine Ok.bind (Q:=fun r=>r=false↔Cd p2 p4 p3 P) ?_ (fun r hr=>Ok.some (by rw [<-hr]; simp))
 refine Ok.bind (Q:=fun r=>r<0↔Cd p2 p4 p3 P) ?_ (fun r hr=>Ok.some (by rw [<-hr,decide_eq_false_iff_not]; omega))
 refine Ok.bind (Q:=fun z=>match z with | .inl _=>Cd p2 p4 p3 P | .inr i=>0<=i/\¬ Cd p2 p4 p3 P) ?_ ?_
 ·unfold wY.l0
  refine w5 (fun i=>0<=i/\i<=(P.length:Int)/\∀ q,0<=q->q<i->Sh p4 p3 (blk P q)) (fun i=>((P.length:Int)-i).toNat) _ ?_ 5000 _ ⟨by omega,by omega,fun q _ _=>by omega⟩ (by omega)
  rintro next i ⟨h1,h2,h3⟩ ih
  refine Ok.ite (fun d=>?_) (fun d=>Ok.some ⟨c,fun q q0 q1=>h3 q q0 (by have:=df d; omega)⟩)
  have d:=dt d
  refine Ok.gd ⟨h1,d⟩ (Ok.bind (Q:=fun r=>r=false↔Sh p4 p3 (blk P i)) (Ok.bind (Vq p0 p1 p2 p3 p4 p5 p6 p7 p8 p9 (hB i h1 d)) (fun r hr=>Ok.some (by rw [<-show (r=true↔Sh p4 p3 (blk P i)) from hr]; simp))) ?_)
  intro r hr
  refine Ok.ite (fun c2=>Ok.some ⟨h1,fun hj=>?_⟩) (fun c2=>?_)
  ·have:=hr.2 (hj.2 i h1 (by omega))
   rw [c2] at this; cases this
  ·have e:=kw1 (x:=i) (by omega) (by omega)
   refine ih _ ⟨by omega,by omega,fun q q0 q1=>?_⟩ (by omega)
   by_cases e2:q=i
   ·rw [e2]; exact hr.1 c2
   ·exact h3 q q0 (by omega)
 ·intro z hz
  cases z with
  | inl u=>exact Ok.some ⟨fun _=>hz,fun _=>by decide⟩
  | inr i=>exact Ok.some ⟨fun h=>by have:0<=i:=hz.1; omega,fun h=>absurd h hz.2⟩
theorem ZR (p0 p1 p2 p3 p4 p5 p6 p7 p8 p9:Int) {P:List (List (List Int))} (hL:P.length<=10) (hB:∀ i,0<=i->i<(P.length:Int)->(blk P i).length<=40):Ok (fun r=>r=true↔Cd p2 p4 p3 P) (zh 5000 p0 p1 p2 p3 p4 p5 p6 p7 p8 p9 P):=by
 refine Ok.ite (fun c=>Ok.some ⟨fun h=>(by cases h),fun h=>absurd h.1 (xT c)⟩) (fun c=>?_)
 have c:(P.length:Int)=p2:=xI c
 refine Ok.bind (Q:=fun z=>match z with | .inl _=>Cd p2 p4 p3 P | .inr r=>r=false/\¬ Cd p2 p4 p3 P) ?_ ?_
 ·unfold zh.l0
  refine w5 (fun i=>0<=i/\i<=(P.length:Int)/\∀ q,0<=q->q<i->Sh p4 p3 (blk P q)) (fun i=>((P.length:Int)-i).toNat) _ ?_ 5000 _ ⟨by omega,by omega,fun q _ _=>by omega⟩ (by omega)
  rintro next i ⟨h1,h2,h3⟩ ih
  refine Ok.ite (fun d=>?_) (fun d=>Ok.some ⟨c,fun q q0 q1=>h3 q q0 (by have:=df d; omega)⟩)
  have d:=dt d
  have hb:=hB i h1 d
  refine Ok.gd ⟨h1,d⟩ (Ok.ite (fun c2=>Ok.some ⟨rfl,fun hc=>xT c2 (hc.2 i h1 (by omega)).1⟩) (fun c2=>?_))
  have c2:((blk P i).length:Int)=p4:=xI c2
  refine Ok.bind (Q:=fun z=>match z with | .inl _=>Sh p4 p3 (blk P i) | .inr r=>r=false/\¬ Sh p4 p3 (blk P i)) ?_ ?_
  ·unfold zh.l1
   refine w5 (fun j=>0<=j/\j<=p4/\∀ q,0<=q->q<j->((row (blk P i) q).length:Int)=p3) (fun j=>(p4-j).toNat) _ ?_ 5000 _ ⟨by omega,by omega,fun q _ _=>by omega⟩ (by omega)
   rintro next2 j ⟨f1,f2,f3⟩ ih2
   refine Ok.ite (fun d2=>?_) (fun d2=>Ok.some ⟨c2,fun q q0 q1=>f3 q q0 (by have:=df d2; omega)⟩)
   have d2:=dt d2
   refine Ok.gd ⟨h1,d⟩ (Ok.gd ⟨f1,by show j<((blk P i).length:Int); omega⟩ (Ok.ite (fun c3=>Ok.some ⟨rfl,fun hs=>xT c3 (hs.2 j f1 d2)⟩) (fun c3=>?_)))
   have e:=kw1 (x:=j) (by omega) (by omega)
   refine ih2 _ ⟨by omega,by omega,fun q q0 q1=>?_⟩ (by omega)
   by_cases e2:q=j
   ·rw [e2]; exact xI c3
   ·exact f3 q q0 (by omega)
  ·intro z hz
   cases z with
   | inl u =>
    have e:=kw1 (x:=i) (by omega) (by omega)
    refine ih _ ⟨by omega,by omega,fun q q0 q1=>?_⟩ (by omega)
    by_cases e2:q=i
    ·rw [e2]; exact hz
    ·exact h3 q q0 (by omega)
   | inr r=>exact Ok.some ⟨hz.1,fun hc=>hz.2 (hc.2 i h1 (by omega))⟩
 ·intro z hz
  cases z with
  | inl u=>exact Ok.some ⟨fun _=>hz,fun _=>rfl⟩
  | inr r=>exact Ok.some ⟨fun h=>(by rw [hz.1] at h; cases h),fun h=>absurd h hz.2⟩
theorem Um (X:List (List Int)):Ok (fun r=>r=false->X.length<=40) (qg 5000 X):=by
 refine Ok.ite (fun _=>Ok.some (fun h=>by cases h)) (fun c=>?_)
 have c:=df c
 refine Ok.bind (Q:=fun _=>True) ?_ (fun z _=>by
  cases z with
  | inl u=>exact Ok.some (fun _=>by omega)
  | inr r=>exact Ok.some (fun _=>by omega))
 unfold qg.l0
 refine w5 (fun i=>0<=i/\i<=(X.length:Int)) (fun i=>((X.length:Int)-i).toNat) _ ?_ 5000 _ ⟨by omega,by omega⟩ (by omega)
 rintro next i ⟨h1,h2⟩ ih
 refine Ok.ite (fun d=>?_) (fun _=>Ok.some trivial)
 have d:=dt d
 refine Ok.gd ⟨h1,d⟩ (Ok.ite (fun _=>Ok.some trivial) (fun _=>?_))
 have e:=kw1 (x:=i) (by omega) (by omega)
 exact ih _ ⟨by omega,by omega⟩ (by omega)
theorem UW (P:List (List (List Int))):Ok (fun r=>r=false->P.length<=10/\∀ i,0<=i->i<(P.length:Int)->(blk P i).length<=40) (zq 5000 P):=by
 refine Ok.ite (fun _=>Ok.some (fun h=>by cases h)) (fun c=>?_)
 have c:=df c
 refine Ok.bind (Q:=fun z=>match z with | .inl _=>∀ i,0<=i->i<(P.length:Int)->(blk P i).length<=40 | .inr r=>r=true) ?_ ?_
 ·unfold zq.l0
  refine w5 (fun i=>0<=i/\i<=(P.length:Int)/\∀ q,0<=q->q<i->(blk P q).length<=40) (fun i=>((P.length:Int)-i).toNat) _ ?_ 5000 _ ⟨by omega,by omega,fun q _ _=>by omega⟩ (by omega)
  rintro next i ⟨h1,h2,h3⟩ ih
  refine Ok.ite (fun d=>?_) (fun d=>Ok.some (fun q q0 q1=>h3 q q0 (by have:=df d; omega)))
  have d:=dt d
  refine Ok.gd ⟨h1,d⟩ (Ok.bind (Um (blk P i)) ?_)
  intro r hr
  refine Ok.ite (fun _=>Ok.some rfl) (fun c2=>?_)
  have e:=kw1 (x:=i) (by omega) (by omega)
  refine ih _ ⟨by omega,by omega,fun q q0 q1=>?_⟩ (by omega)
  by_cases e2:q=i
  ·rw [e2]; exact hr c2
  ·exact h3 q q0 (by omega)
 ·intro z hz
  cases z with
  | inl u=>exact Ok.some (fun _=>⟨by omega,hz⟩)
  | inr r=>exact Ok.some (fun h=>by rw [show r=true from hz] at h; cases h)
theorem Gt (J:List Int) (S:List (List Int)) (Q:List (List (List Int))):Ok (fun r=>r=false->J.length<=40/\S.length<=10/\Q.length<=40) (wV 5000 J S Q):=by
 refine Ok.ite (fun _=>Ok.some (fun h=>by cases h)) (fun c=>?_)
 obtain ⟨c,c3⟩:=vF c
 obtain ⟨c1,c2⟩:=vF c
 have c1:=df c1; have c2:=df c2; have c3:=df c3
 refine Ok.bind (Q:=fun z=>match z with | .inl _=>True | .inr r=>r=true) ?_ ?_
 ·unfold wV.l2
  refine w5 (fun i=>0<=i/\i<=(S.length:Int)) (fun i=>((S.length:Int)-i).toNat) _ ?_ 5000 _ ⟨by omega,by omega⟩ (by omega)
  rintro next i ⟨g1,g2⟩ ih
  refine Ok.ite (fun d=>?_) (fun _=>Ok.some trivial)
  have d:=dt d
  have e:=kw1 (x:=i) (by omega) (by omega)
  exact Ok.gd ⟨g1,d⟩ (Ok.ite (fun _=>Ok.some rfl) (fun _=>ih _ ⟨by omega,by omega⟩ (by omega)))
 intro z hz
 cases z with
 | inr r=>exact Ok.some (fun h=>by rw [show r=true from hz] at h; cases h)
 | inl u =>
  refine Ok.bind (Q:=fun z=>match z with | .inl _=>True | .inr r=>r=true) ?_ ?_
  ·unfold wV.l0
   refine w5 (fun i=>0<=i/\i<=(Q.length:Int)) (fun i=>((Q.length:Int)-i).toNat) _ ?_ 5000 _ ⟨by omega,by omega⟩ (by omega)
   rintro next i ⟨g1,g2⟩ ih
   refine Ok.ite (fun d=>?_) (fun _=>Ok.some trivial)
   have d:=dt d
   have e:=kw1 (x:=i) (by omega) (by omega)
   refine Ok.gd ⟨g1,d⟩ (Ok.ite (fun _=>Ok.some rfl) (fun e3=>?_))
   have e3:¬ ((blk Q i).length:Int)>10:=df e3
   refine Ok.bind (Q:=fun z=>match z with | .inl _=>True | .inr r=>r=true) ?_ ?_
   ·unfold wV.l1
    refine w5 (fun b=>0<=b/\b<=((blk Q i).length:Int)) (fun b=>(((blk Q i).length:Int)-b).toNat) _ ?_ 5000 _ ⟨by omega,by omega⟩ (by omega)
    rintro next2 b ⟨f1,f2⟩ ih2
    refine Ok.gd ⟨g1,d⟩ (Ok.ite (fun d2=>?_) (fun _=>Ok.some trivial))
    have d2:b<((blk Q i).length:Int):=dt d2
    have e2:=kw1 (x:=b) (by omega) (by omega)
    exact Ok.gd ⟨g1,d,f1,d2⟩ (Ok.ite (fun _=>Ok.some rfl) (fun _=>ih2 _ ⟨by omega,by rw [e2]; show b+1<=((blk Q i).length:Int); omega⟩ (by rw [e2]; show (((blk Q i).length:Int)-(b+1)).toNat<_; omega)))
   ·intro z hz
    cases z with
    | inl u=>exact ih _ ⟨by omega,by omega⟩ (by omega)
    | inr r=>exact Ok.some hz
  ·intro z hz
   cases z with
   | inl u=>exact Ok.some (fun _=>⟨by omega,by omega,by omega⟩)
   | inr r=>exact Ok.some (fun h=>by rw [show r=true from hz] at h; cases h)
theorem J0 {a:List Int} (ha:a.length<=4000):Ok (fun r=>r=true) (zT 5000 a a):=by
 refine Ok.ite (fun c=>by rw [bne_self_eq_false] at c; cases c) (fun _=>?_)
 refine Ok.bind (Q:=fun z=>z=.inl ()) ?_ (fun z hz=>by rw [show z=.inl () from hz]; exact Ok.some rfl)
 unfold zT.l0
 refine w5 (fun i=>0<=i/\i<=(a.length:Int)) (fun i=>((a.length:Int)-i).toNat) _ ?_ 5000 _ ⟨by omega,by omega⟩ (by omega)
 rintro next i ⟨g1,g2⟩ ih
 refine Ok.ite (fun d=>?_) (fun _=>Ok.some rfl)
 have d:=dt d
 refine Ok.gd ⟨g1,d⟩ (Ok.gd ⟨g1,d⟩ (Ok.ite (fun c=>by rw [bne_self_eq_false] at c; cases c) (fun _=>?_)))
 have e:=kw1 (x:=i) (by omega) (by omega)
 exact ih _ ⟨by omega,by omega⟩ (by omega)
theorem QR {a:List (List Int)} (ha:a.length<=4000) (hr:∀ i,0<=i->i<(a.length:Int)->(row a i).length<=4000):Ok (fun r=>r=true) (zH 5000 a a):=by
 refine Ok.ite (fun c=>by rw [bne_self_eq_false] at c; cases c) (fun _=>?_)
 refine Ok.bind (Q:=fun z=>z=.inl ()) ?_ (fun z hz=>by rw [show z=.inl () from hz]; exact Ok.some rfl)
 unfold zH.l0
 refine w5 (fun i=>0<=i/\i<=(a.length:Int)) (fun i=>((a.length:Int)-i).toNat) _ ?_ 5000 _ ⟨by omega,by omega⟩ (by omega)
 rintro next i ⟨g1,g2⟩ ih
 refine Ok.ite (fun d=>?_) (fun _=>Ok.some rfl)
 have d:=dt d
 refine Ok.gd ⟨g1,d⟩ (Ok.gd ⟨g1,d⟩ (Ok.bind (J0 (hr i g1 d)) ?_))
 rintro _ rfl
 refine Ok.ite (fun h=>by cases h) (fun _=>?_)
 have e:=kw1 (x:=i) (by omega) (by omega)
 exact ih _ ⟨by omega,by omega⟩ (by omega)
theorem U0 {J:List Int} {S:List (List Int)} {Q:List (List (List Int))} (hJ:J.length<=4000) (hS:S.length<=4000) (hSr:∀ i,0<=i->i<(S.length:Int)->(row S i).length<=4000) (hQ:Q.length<=4000) (hQr:∀ i,0<=i->i<(Q.length:Int)->(blk Q i).length<=4000/\∀ c,0<=c->c<((blk Q i).length:Int)->(row (blk Q i) c).length<=4000):Ok (fun r=>r=true) (zZ 5000 J S Q J S Q):=by
 refine Ok.bind (Q:=fun x=>x=false) (Ok.bind (J0 hJ) ?_) ?_
 ·rintro _ rfl
  refine Ok.ite (fun h=>by cases h) (fun _=>Ok.bind (QR hS hSr) ?_)
  rintro _ rfl
  refine Ok.some ?_
  show (bif false then true else ((Q.length:Int) != (Q.length:Int)))=false
  rw [bne_self_eq_false]; rfl
 rintro _ rfl
 refine Ok.ite (fun h=>by cases h) (fun _=>?_)
 refine Ok.bind (Q:=fun z=>z=.inl ()) ?_ (fun z hz=>by rw [show z=.inl () from hz]; exact Ok.some rfl)
 unfold zZ.l0
 refine w5 (fun i=>0<=i/\i<=(Q.length:Int)) (fun i=>((Q.length:Int)-i).toNat) _ ?_ 5000 _ ⟨by omega,by omega⟩ (by omega)
 rintro next i ⟨g1,g2⟩ ih
 refine Ok.ite (fun d=>?_) (fun _=>Ok.some rfl)
 have d:=dt d
 have hq:=hQr i g1 d
 refine Ok.gd ⟨g1,d⟩ (Ok.gd ⟨g1,d⟩ (Ok.bind (QR hq.1 hq.2) ?_))
 rintro _ rfl
 refine Ok.ite (fun h=>by cases h) (fun _=>?_)
 have e:=kw1 (x:=i) (by omega) (by omega)
 exact ih _ ⟨by omega,by omega⟩ (by omega)
theorem U2:kh 5000=some true:=by kernel_rfl
theorem YU {M B:Int} {X:List (List Int)} (h:Sh M B X) (hM:M<=100) (hB:B<=100):Ok (fun r=>r=true) (zi 5000 X X):=by
 have h1:=h.1
 refine Ok.ite (fun c=>by rw [bne_self_eq_false] at c; cases c) (fun _=>?_)
 refine Ok.bind (Q:=fun z=>z=.inl ()) ?_ (fun z hz=>by rw [show z=.inl () from hz]; exact Ok.some rfl)
 unfold zi.l0
 refine w5 (fun i=>0<=i/\i<=(X.length:Int)) (fun i=>((X.length:Int)-i).toNat) _ ?_ 5000 _ ⟨by omega,by omega⟩ (by omega)
 rintro next i ⟨g1,g2⟩ ih
 refine Ok.ite (fun d=>?_) (fun _=>Ok.some rfl)
 have d:=dt d
 have hr:=h.2 i g1 (by omega)
 have hr':((Kd.nth (.slice (.int .i32)) X (Int.toNat i)).length:Int)=B:=hr
 refine Ok.gd ⟨g1,d⟩ (Ok.gd ⟨g1,d⟩ (Ok.ite (fun c=>by rw [bne_self_eq_false] at c; cases c) (fun _=>Ok.bind (Q:=fun z=>z=.inl ()) ?_ ?_)))
 ·unfold zi.l1
  refine w5 (fun b=>0<=b/\b<=B) (fun b=>(B-b).toNat) _ ?_ 5000 _ ⟨by omega,by omega⟩ (by omega)
  rintro next2 b ⟨f1,f2⟩ ih2
  refine Ok.gd ⟨g1,d⟩ (Ok.ite (fun d2=>?_) (fun _=>Ok.some rfl))
  have d2:=dt d2
  refine Ok.gd ⟨g1,d⟩ (Ok.gd ⟨f1,by omega⟩ (Ok.gd ⟨g1,d⟩ (Ok.gd ⟨f1,by omega⟩ (Ok.ite (fun c=>by rw [bne_self_eq_false] at c; cases c) (fun _=>?_)))))
  have e:=kw1 (x:=b) (by omega) (by omega)
  exact ih2 _ ⟨by omega,by omega⟩ (by omega)
 ·rintro _ rfl
  have e:=kw1 (x:=i) (by omega) (by omega)
  exact ih _ ⟨by omega,by omega⟩ (by omega)
theorem Y9 {C M B:Int} {X:List (List (List Int))} (h1:(X.length:Int)=C) (h:∀ c,0<=c->c<C->Sh M B (blk X c)) (hC:C<=100) (hM:M<=100) (hB:B<=100):Ok (fun r=>r=true) (w7 5000 X X):=by
 refine Ok.ite (fun c=>by rw [bne_self_eq_false] at c; cases c) (fun _=>?_)
 refine Ok.bind (Q:=fun z=>z=.inl ()) ?_ (fun z hz=>by rw [show z=.inl () from hz]; exact Ok.some rfl)
 unfold w7.l0
 refine w5 (fun i=>0<=i/\i<=(X.length:Int)) (fun i=>((X.length:Int)-i).toNat) _ ?_ 5000 _ ⟨by omega,by omega⟩ (by omega)
 rintro next i ⟨g1,g2⟩ ih
 refine Ok.ite (fun d=>?_) (fun _=>Ok.some rfl)
 have d:=dt d
 refine Ok.gd ⟨g1,d⟩ (Ok.gd ⟨g1,d⟩ (Ok.bind (YU (h i g1 (by omega)) hM hB) ?_))
 rintro _ rfl
 refine Ok.ite (fun h=>by cases h) (fun _=>?_)
 have e:=kw1 (x:=i) (by omega) (by omega)
 exact ih _ ⟨by omega,by omega⟩ (by omega)
theorem gt {C M B:Int} {X Y:List (List (List Int))} {f:Int->Int->Int->Int} (x1:(X.length:Int)=C) (x2:∀ c,0<=c->c<C->Pw M B (blk X c) (f c)) (y1:(Y.length:Int)=C) (y2:∀ c,0<=c->c<C->Pw M B (blk Y c) (f c)):X=Y:=by
 have e:∀ (Z:List (List (List Int))) {i:Nat} (hi:i<Z.length),blk Z (i:Int)=Z[i]:=fun Z i hi=>by
  show Z.getD i []=_
  rw [List.getD_eq_getElem?_getD,List.getElem?_eq_getElem hi]; rfl
 refine List.ext_getElem (by omega) (fun i i0 i1=>?_)
 rw [<-e X i0,<-e Y i1]
 exact (x2 i (by omega) (by omega)).eq (y2 i (by omega) (by omega))
theorem Jp (p0 p1 p2 p3 p4 p5 p6 p7 p8 p9:Int) (hm:yf p0 p1 p2 p3 p4 p5 p6 p7 p8 p9) {J:List Int} {S:List (List Int)} {Q:List (List (List Int))} (hJ:J.length<=4000) (hQ:Q.length<=4000) :
  Ok (fun r=>(QS p0 p1 p2 p3 p4 p5 p6 p7 p8 p9 J S Q/\r.2=0/\wn 5000 p0 p1 p2 p3 p4 p5 p6 p7 p8 p9 J S Q=some r.1/\Ok (fun q=>q=true) (w7 5000 r.1 r.1))\/(¬ QS p0 p1 p2 p3 p4 p5 p6 p7 p8 p9 J S Q/\r=([],1))) (w9 5000 p0 p1 p2 p3 p4 p5 p6 p7 p8 p9 J S Q):=by
 have hmay:=(Wu p0 p1 p2 p3 p4 p5 p6 p7 p8 p9).trans (by rw [if_pos hm])
 by_cases hb:QS p0 p1 p2 p3 p4 p5 p6 p7 p8 p9 J S Q
 ·obtain ⟨C,B,z,h,hv⟩:=hb
  obtain ⟨C',B',z',h',hsr⟩:=WS p0 p1 p2 p3 p4 p5 p6 p7 p8 p9 h.hf
  have hv':=(Z9 p0 p1 p2 p3 p4 p5 p6 p7 p8 p9 h').1 ⟨C,B,z,h,hv⟩
  have h2:p2=1\/p2=2:=hm.1.2.2.2.1
  have h3:p3=4\/p3=8:=hm.1.2.2.2.2.1
  have h4:p4=4\/p4=8\/p4=12\/p4=16:=hm.1.2.2.2.2.2.1
  have hsh:Sh p2 p3 (rw_ C' B' z'):=by rw [<-h'.hC,<-h'.hB]; exact XE
  obtain ⟨⟨sh,ok⟩,hs,hs1,hs2⟩:=Za p0 p1 p2 p3 p4 p5 p6 p7 p8 p9 J S Q hm hJ hQ h'.hf hsh h'.ha
  have hs1:ok=true↔PV p0 p1 p2 p3 p4 p5 p6 p7 p8 p9 J S Q (rw_ C' B' z'):=hs1
  have hs2:ok=true->sh=rw_ C' B' z':=hs2
  have hok:=hs1.2 hv'
  have hsq:=hs2 hok
  subst hok hsq
  obtain ⟨r,hr,r1,r2,r3⟩:=Uc p0 p1 p2 p3 p4 p5 p6 p7 p8 p9 hm h'.hf hsh hv' hs
  obtain ⟨r',hr',q1,q2⟩:=Yh p0 p1 p2 p3 p4 p5 p6 p7 p8 p9 h' hsr hv'
  have e:r.1=r':=gt r2 r3 q1 q2
  refine ⟨r,hr,.inl ⟨⟨C,B,z,h,hv⟩,r1,by rw [hr',e],Y9 r2 (fun c c0 c1=>(r3 c c0 c1).sh) (by omega) (by omega) (by omega)⟩⟩
 ·have hno:∃ sh,wr 5000 p0 p1 p2 p3 p4 p5 p6 p7 p8 p9 J S Q=some (sh,false):=by
   by_cases hf:Fit p0 p1 p2 p3 p4 p5 p6 p7 p8 p9 S
   ·obtain ⟨C',B',z',h',hsr⟩:=WS p0 p1 p2 p3 p4 p5 p6 p7 p8 p9 hf
    have hsh:Sh p2 p3 (rw_ C' B' z'):=by rw [<-h'.hC,<-h'.hB]; exact XE
    obtain ⟨⟨sh,ok⟩,hs,hs1,hs2⟩:=Za p0 p1 p2 p3 p4 p5 p6 p7 p8 p9 J S Q hm hJ hQ h'.hf hsh h'.ha
    have hs1:ok=true↔PV p0 p1 p2 p3 p4 p5 p6 p7 p8 p9 J S Q (rw_ C' B' z'):=hs1
    have hok:ok=false:=by
     cases hk:ok
     ·rfl
     ·exact absurd ((Z9 p0 p1 p2 p3 p4 p5 p6 p7 p8 p9 h').2 (hs1.1 hk)) hb
    subst hok
    exact ⟨sh,hs⟩
   ·obtain ⟨⟨sh,ok⟩,hs,hv⟩:=Ys p0 p1 p2 p3 p4 p5 p6 p7 p8 p9 J S Q hm hJ hQ
    have hok:ok=false:=by
     cases hk:ok
     ·rfl
     ·exact absurd (hv hk).1 hf
    subst hok
    exact ⟨sh,hs⟩
  obtain ⟨sh,hs⟩:=hno
  exact ⟨_,wJ hmay (wM rfl (wJ hs (wQ rfl rfl))),.inr ⟨hb,rfl⟩⟩
theorem Q8 (p0 p1 p2 p3 p4 p5 p6 p7 p8 p9:Int) (hm:yf p0 p1 p2 p3 p4 p5 p6 p7 p8 p9) {P:List (List (List Int))} (hP1:P.length<=10) (hP2:∀ i,0<=i->i<(P.length:Int)->(blk P i).length<=40) (hg:∀ c i b,vc (at' (row (blk P c) i) b)) :
  (Cd p2 p4 p3 P/\∃ J S Q,wm 5000 p0 p1 p2 p3 p4 p5 p6 p7 p8 p9 P=some (J,S,Q,0)/\wg 5000 p0 p1 p2 p3 p4 p5 p6 p7 p8 p9 P=some (J,S,Q)/\Ok (fun r=>r=true) (zZ 5000 J S Q J S Q))\/(¬ Cd p2 p4 p3 P/\wm 5000 p0 p1 p2 p3 p4 p5 p6 p7 p8 p9 P=some ([],[],[],1)):=by
 have hmay:=(Wu p0 p1 p2 p3 p4 p5 p6 p7 p8 p9).trans (by rw [if_pos hm])
 have h2:p2=1\/p2=2:=hm.1.2.2.2.1
 have h3:p3=4\/p3=8:=hm.1.2.2.2.2.1
 have h4:p4=4\/p4=8\/p4=12\/p4=16:=hm.1.2.2.2.2.2.1
 by_cases hc:Cd p2 p4 p3 P
 ·have h:Pl p0 p1 p2 p3 p4 p5 p6 p7 p8 p9 P:=⟨hm,hc,fun c _ _ i b _ _ _ _=>hg c i b⟩
  obtain ⟨⟨J,S,Q,e⟩,he,⟨a1,a2,a3,sh,a4,a5⟩,⟨_,C,B,z,hz,hv⟩⟩:=Ok.both (Yo p0 p1 p2 p3 p4 p5 p6 p7 p8 p9 h) (Ja p0 p1 p2 p3 p4 p5 p6 p7 p8 p9 h.m h.c)
  have a1:e=0:=a1
  subst a1
  obtain ⟨C',B',z',hz',hsr⟩:=WS p0 p1 p2 p3 p4 p5 p6 p7 p8 p9 hz.hf
  have k2:=hz'.ha
  rw [hz.ha] at k2
  have k2:rw_ C B z=rw_ C' B' z':=(Prod.mk.inj (Option.some.inj k2)).1
  have a4:zd 5000 p0 p1 p2 p3 p4 p5 p6 p7 p8 p9 S=some (sh,0):=a4
  have k4:sh=rw_ C B z:=by
   have q:=hz.ha
   rw [show zd 5000 p0 p1 p2 p3 p4 p5 p6 p7 p8 p9 S=_ from a4] at q
   exact (Prod.mk.inj (Option.some.inj q)).1
  obtain ⟨r,r1,r2⟩:=Jb p0 p1 p2 p3 p4 p5 p6 p7 p8 p9 h a2 a3 hz' hsr (by rw [<-k2,<-k4]; exact a5)
  have a2:Pv p3 J (jvf P p3 p4 p6):=a2
  have a3:Pw p2 p3 S (fun c b=>scf (atf P p3 p4 p6 c) p4 b):=a3
  have a5:Qx p2 p3 p4 p6 P (celf sh) Q:=a5
  have j1:=a2.1
  have s1:=a3.1
  have q1:=a5.1
  refine .inl ⟨hc,J,S,Q,he,by rw [r1,r2],U0 (by omega) (by omega) (fun i i0 i1=>by have:=(a3.2 i i0 (by omega)).1; omega) (by omega) (fun i i0 i1=>?_)⟩
  have hq:=a5.2 i i0 (by omega)
  have hq1:=hq.1
  exact ⟨by omega,fun c c0 c1=>by have:=(hq.2 c c0 (by omega)).1; omega⟩
 ·obtain ⟨r,hr,hr2⟩:=VP p0 p1 p2 p3 p4 p5 p6 p7 p8 p9 hP1 hP2
  have hrf:r=false:=by
   cases hk:r
   ·rfl
   ·exact absurd (hr2.1 hk) hc
  subst hrf
  exact .inr ⟨hc,wJ hmay (wM rfl (wJ hr (wQ rfl rfl)))⟩
theorem gp {P:List (List (List Int))} (hw:∀ A,A∈P->∀ r,r∈A->∀ x,x∈r->-2147483648<=x/\x<=2147483647) (c i b:Int):vc (at' (row (blk P c) i) b):=by
 have get:∀ {α:Type} (l:List α) (d:α) (n:Nat),l.getD n d=d\/l.getD n d∈l:=fun l d n=>by
  rw [List.getD_eq_getElem?_getD]
  by_cases h:n<l.length
  ·rw [List.getElem?_eq_getElem h]; exact .inr (List.getElem_mem h)
  ·rw [List.getElem?_eq_none (by omega)]; exact .inl rfl
 have z:vc 0:=⟨by decide,by decide⟩
 have n0:∀ k:Nat,(([]:List Int).getD k 0)=0:=fun k=>rfl
 have n1:∀ k:Nat,(([]:List (List Int)).getD k [])=[]:=fun k=>rfl
 show vc ((((P.getD c.toNat []).getD i.toNat []).getD b.toNat 0))
 rcases get P [] c.toNat with h | h
 ·rw [h,n1,n0]; exact z
 ·rcases get (P.getD c.toNat []) [] i.toNat with h2 | h2
  ·rw [h2,n0]; exact z
  ·rcases get ((P.getD c.toNat []).getD i.toNat []) 0 b.toNat with h3 | h3
   ·rw [h3]; exact z
   ·exact hw _ h _ h2 _ h3
theorem analyses_w (p0 p1 p2 p3 p4 p5 p6 p7 p8 p9:Int) (P:List (List (List Int))) (J:List Int) (S:List (List Int)) (Q:List (List (List Int))) (hw:∀ A,A∈P->∀ r,r∈A->∀ x,x∈r->-2147483648<=x/\x<=2147483647):psalterylaw14_SubAnalyses 5000 p0 p1 p2 p3 p4 p5 p6 p7 p8 p9 P J S Q=some true:=by
 have key:Ok (fun r=>r=true) (psalterylaw14_SubAnalyses 5000 p0 p1 p2 p3 p4 p5 p6 p7 p8 p9 P J S Q):=by
  refine Ok.bind (Ok.is U2) ?_
  rintro _ rfl
  refine Ok.ite (fun h=>by cases h) (fun _=>?_)
  refine Ok.bind (Q:=fun a=>a=false->(P.length<=10/\∀ i,0<=i->i<(P.length:Int)->(blk P i).length<=40)/\J.length<=40/\S.length<=10/\Q.length<=40) (Ok.bind (UW P) ?_) ?_
  ·intro r hr
   exact Ok.ite (fun _=>Ok.some (fun h=>by cases h)) (fun c=>Ok.bind (Gt J S Q) (fun r2 hr2=>Ok.some (fun h=>⟨hr c,hr2 h⟩)))
  intro far hfar
  refine Ok.ite (fun _=>Ok.some rfl) (fun c=>?_)
  obtain ⟨⟨hP1,hP2⟩,hJ,hS,hQ⟩:=hfar c
  by_cases hm:yf p0 p1 p2 p3 p4 p5 p6 p7 p8 p9
  ·obtain ⟨⟨x,g⟩,hxe,hxa⟩:=Jp p0 p1 p2 p3 p4 p5 p6 p7 p8 p9 hm (J:=J) (S:=S) (Q:=Q) (by omega) (by omega)
   have hana:=Q8 p0 p1 p2 p3 p4 p5 p6 p7 p8 p9 hm hP1 hP2 (gp hw)
   have fin:Ok (fun r=>r=true) ((wE 5000 p0 p1 p2 p3 p4 p5 p6 p7 p8 p9 J S Q).bind fun V=>bif (!V) then some (bif (g==1) then ((x.length:Int)==0) else false) else ((bif (g==0) then (wn 5000 p0 p1 p2 p3 p4 p5 p6 p7 p8 p9 J S Q).bind fun Y=>(w7 5000 x Y).bind fun Z=>some Z else some false:Option Bool).bind fun a=>some a)):=by
    refine Ok.bind (uA p0 p1 p2 p3 p4 p5 p6 p7 p8 p9 hm J Q (by omega)) ?_
    intro r3 hr3
    refine Ok.ite (fun c3=>?_) (fun c3=>?_)
    ·have c3:r3=false:=by simpa using c3
     rcases hxa with ⟨hb,_⟩ | ⟨_,he⟩
     ·rw [hr3.2 hb] at c3; cases c3
     ·obtain ⟨rfl,rfl⟩:=Prod.mk.inj he
      exact Ok.some rfl
    ·have c3:r3=true:=by simpa using c3
     rcases hxa with ⟨_,h0,hp,hsm⟩ | ⟨hn,_⟩
     ·have h0:g=0:=h0
      subst h0
      refine Ok.bind (Q:=fun a=>a=true) (Ok.ite (fun _=>Ok.bind (Ok.is hp) ?_) (fun h=>by cases h)) (fun a ha=>Ok.some ha)
      rintro _ rfl
      exact Ok.bind hsm (fun r hr=>Ok.some hr)
     ·exact absurd (hr3.1 c3) hn
   rcases hana with ⟨hc,aj,as,aq,hae,hra,hsame⟩ | ⟨hc,hae⟩
   ·refine Ok.bind (Ok.is hae) ?_
    rintro _ rfl
    refine Ok.bind (Ok.is hxe) ?_
    rintro _ rfl
    refine Ok.bind (Qn p0 p1 p2 p3 p4 p5 p6 p7 p8 p9) ?_
    intro r hr
    rw [hr.2 hm]
    refine Ok.ite (fun h=>by cases h) (fun _=>Ok.bind (ZR p0 p1 p2 p3 p4 p5 p6 p7 p8 p9 hP1 hP2) ?_)
    intro r2 hr2
    rw [hr2.2 hc]
    refine Ok.bind (Q:=fun z=>z=.inl ()) (Ok.ite (fun h=>by cases h) (fun _=>Ok.bind (Q:=fun U=>U=false) (Ok.ite (fun h=>by cases h) (fun _=>Ok.bind (Ok.is hra) ?_)) ?_)) ?_
    ·rintro _ rfl
     refine Ok.bind hsame ?_
     rintro _ rfl
     exact Ok.some rfl
    ·rintro _ rfl
     exact Ok.ite (fun h=>by cases h) (fun _=>Ok.some rfl)
    ·rintro _ rfl
     exact fin
   ·refine Ok.bind (Ok.is hae) ?_
    rintro _ rfl
    refine Ok.bind (Ok.is hxe) ?_
    rintro _ rfl
    refine Ok.bind (Qn p0 p1 p2 p3 p4 p5 p6 p7 p8 p9) ?_
    intro r hr
    rw [hr.2 hm]
    refine Ok.ite (fun h=>by cases h) (fun _=>Ok.bind (ZR p0 p1 p2 p3 p4 p5 p6 p7 p8 p9 hP1 hP2) ?_)
    intro r2 hr2
    have hrf:r2=false:=by
     cases hk:r2
     ·rfl
     ·exact absurd (hr2.1 hk) hc
    subst hrf
    refine Ok.bind (Q:=fun z=>z=.inl ()) (Ok.ite (fun _=>Ok.ite (fun h=>by cases h) (fun _=>Ok.some rfl)) (fun h=>by cases h)) ?_
    rintro _ rfl
    exact fin
  ·have hmay:qG 5000 p0 p1 p2 p3 p4 p5 p6 p7 p8 p9=some 110:=(Wu p0 p1 p2 p3 p4 p5 p6 p7 p8 p9).trans (by rw [if_neg hm])
   have hp:wm 5000 p0 p1 p2 p3 p4 p5 p6 p7 p8 p9 P=some ([],[],[],110):=wJ hmay (wQ rfl rfl)
   have hq:w9 5000 p0 p1 p2 p3 p4 p5 p6 p7 p8 p9 J S Q=some ([],110):=wJ hmay (wQ rfl rfl)
   refine Ok.bind (Ok.is hp) ?_
   rintro _ rfl
   refine Ok.bind (Ok.is hq) ?_
   rintro _ rfl
   refine Ok.bind (Qn p0 p1 p2 p3 p4 p5 p6 p7 p8 p9) ?_
   intro r hr
   have hrf:r=false:=by
    cases hk:r
    ·rfl
    ·exact absurd (hr.1 hk) hm
   subst hrf
   exact Ok.ite (fun _=>Ok.some rfl) (fun h=>by cases h)
 obtain ⟨_,h,rfl⟩:=key
 exact h
end Go.Fo
