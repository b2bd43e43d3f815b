/- Parameters that may be,says the document. -/
import Derived.Test.YtiihmaaobmpababGreatSaUd
namespace Go.Fo
set_option maxRecDepth 6000
theorem Yk (p0 p1 p2 p3 p4 p5 p6 p7 p8 p9:Int) (hm:yf p0 p1 p2 p3 p4 p5 p6 p7 p8 p9) {l:List (List Int)} (hl:l.length<=100):Ok (fun r=>r=0↔Fit p0 p1 p2 p3 p4 p5 p6 p7 p8 p9 l) (zo 5000 p0 p1 p2 p3 p4 p5 p6 p7 p8 p9 l):=by
 have h3:p3=4\/p3=8:=hm.1.2.2.2.2.1
 refine Ok.bind (Qn p0 p1 p2 p3 p4 p5 p6 p7 p8 p9) ?_
 intro r hr
 rw [hr.2 hm]
 refine Ok.ite (fun h=>by cases h) (fun _=>Ok.ite (fun c=>Ok.some ⟨fun h=>(by cases h),fun h=>absurd h.2.1 (xT c)⟩) (fun c=>?_))
 have c:=xI c
 refine Ok.bind (Q:=fun z=>match z with | .inl _=>Fit p0 p1 p2 p3 p4 p5 p6 p7 p8 p9 l | .inr r=>r≠0/\¬ Fit p0 p1 p2 p3 p4 p5 p6 p7 p8 p9 l) ?_ ?_
 ·unfold zo.l0
  refine w5 (fun i=>0<=i/\i<=(l.length:Int)/\∀ c,0<=c->c<i->((row l c).length:Int)=p3/\∀ q,0<=q->q<p3->0<=at' (row l c) q/\at' (row l c) q<=15) (fun i=>((l.length:Int)-i).toNat) _ ?_ 5000 _ ⟨by omega,by omega,fun c _ _=>by omega⟩ (by omega)
  rintro next i ⟨g1,g2,g3⟩ ih
  refine Ok.ite (fun d=>?_) (fun d=>Ok.some ⟨hm,c,fun c c0 c1=>g3 c c0 (by have:=df d; omega)⟩)
  have d:=dt d
  refine Ok.gd ⟨g1,d⟩ (Ok.ite (fun e=>Ok.some ⟨by decide,fun h=>?_⟩) (fun e=>?_))
  ·have e:((row l i).length:Int)≠p3:=xT e
   exact e (h.2.2 i g1 (by omega)).1
  have e:((row l i).length:Int)=p3:=xI e
  refine Ok.bind (Q:=fun z=>match z with | .inl _=>∀ q,0<=q->q<p3->0<=at' (row l i) q/\at' (row l i) q<=15 | .inr r=>r≠0/\¬ Fit p0 p1 p2 p3 p4 p5 p6 p7 p8 p9 l) ?_ ?_
  ·unfold zo.l1
   refine w5 (fun b=>0<=b/\b<=p3/\∀ q,0<=q->q<b->0<=at' (row l i) q/\at' (row l i) q<=15) (fun b=>(p3-b).toNat) _ ?_ 5000 _ ⟨by omega,by omega,fun q _ _=>by omega⟩ (by omega)
   rintro next2 b ⟨f1,f2,f3⟩ ih2
   refine Ok.ite (fun d2=>?_) (fun d2=>Ok.some (fun q q0 q1=>f3 q q0 (by have:=df d2; omega)))
   have d2:=dt d2
   refine Ok.gd ⟨g1,d,f1,by show b<((row l i).length:Int); omega,fun _=>g1,fun _=>d,fun _=>f1,fun _=>by show b<((row l i).length:Int); omega⟩ (Ok.ite (fun e2=>Ok.some ⟨by decide,fun h=>?_⟩) (fun e2=>?_))
   ·have hv:=(h.2.2 i g1 (by omega)).2 b f1 d2
    rcases Wy e2 with e2 | e2
    ·have e2:at' (row l i) b<0:=dt e2
     omega
    ·have e2:at' (row l i) b>15:=dt e2
     omega
   ·obtain ⟨x,y⟩:=vF e2
    have x:¬ at' (row l i) b<0:=df x
    have y:¬ at' (row l i) b>15:=df y
    have ek:=kw1 (x:=b) (by omega) (by omega)
    refine ih2 _ ⟨by omega,by omega,fun q q0 q1=>?_⟩ (by omega)
    by_cases e3:q=b
    ·rw [e3]; omega
    ·exact f3 q q0 (by omega)
  ·intro z hz
   cases z with
   | inl u =>
    have ek:=kw1 (x:=i) (by omega) (by omega)
    refine ih _ ⟨by omega,by omega,fun c c0 c1=>?_⟩ (by omega)
    by_cases e3:c=i
    ·rw [e3]; exact ⟨e,hz⟩
    ·exact g3 c c0 (by omega)
   | inr r=>exact Ok.some hz
 ·intro z hz
  cases z with
  | inl u=>exact Ok.some ⟨fun _=>hz,fun _=>rfl⟩
  | inr r=>exact Ok.some ⟨fun h=>absurd h hz.1,fun h=>absurd h hz.2⟩
def QS (p0 p1 p2 p3 p4 p5 p6 p7 p8 p9:Int) (J:List Int) (S:List (List Int)) (Q:List (List (List Int))):Prop:=∃ C B z,Shr p0 p1 p2 p3 p4 p5 p6 p7 p8 p9 S C B z/\PV p0 p1 p2 p3 p4 p5 p6 p7 p8 p9 J S Q (rw_ C B z)
theorem Z9 (p0 p1 p2 p3 p4 p5 p6 p7 p8 p9:Int) {J:List Int} {S:List (List Int)} {Q:List (List (List Int))} {C B:Nat} {z:Int->Int} (h:Shr p0 p1 p2 p3 p4 p5 p6 p7 p8 p9 S C B z):QS p0 p1 p2 p3 p4 p5 p6 p7 p8 p9 J S Q↔PV p0 p1 p2 p3 p4 p5 p6 p7 p8 p9 J S Q (rw_ C B z):=by
 refine ⟨fun ⟨C',B',z',h',hv⟩=>?_,fun hv=>⟨C,B,z,h,hv⟩⟩
 have:=h.ha.symm.trans h'.ha
 injection this with this
 injection this with this
 rw [this]; exact hv
theorem uA (p0 p1 p2 p3 p4 p5 p6 p7 p8 p9:Int) (hm:yf p0 p1 p2 p3 p4 p5 p6 p7 p8 p9) (J:List Int) {S:List (List Int)} (Q:List (List (List Int))) (hS:S.length<=100):Ok (fun r=>r=true↔QS p0 p1 p2 p3 p4 p5 p6 p7 p8 p9 J S Q) (wE 5000 p0 p1 p2 p3 p4 p5 p6 p7 p8 p9 J S Q):=by
 have h2:p2=1\/p2=2:=hm.1.2.2.2.1
 have h3:p3=4\/p3=8:=hm.1.2.2.2.2.1
 have h4:p4=4\/p4=8\/p4=12\/p4=16:=hm.1.2.2.2.2.2.1
 have h6:p6=0\/(p6=1/\p2=2):=hm.1.2.2.2.2.2.2.2.1
 refine Ok.bind (Q:=fun x=>x=false↔((J.length:Int)=p3/\(Q.length:Int)=p4/\Fit p0 p1 p2 p3 p4 p5 p6 p7 p8 p9 S)) ?_ ?_
 ·refine Ok.ite (fun c=>Ok.some ⟨fun h=>(by cases h),fun h=>?_⟩) (fun c=>?_)
  ·rcases Wy c with c | c
   ·exact absurd h.1 (xT c)
   ·exact absurd h.2.1 (xT c)
  ·obtain ⟨c1,c2⟩:=vF c
   refine Ok.bind (Yk p0 p1 p2 p3 p4 p5 p6 p7 p8 p9 hm hS) ?_
   intro r hr
   refine Ok.some ⟨fun h=>⟨xI c1,xI c2,hr.1 (xI h)⟩,fun h=>?_⟩
   rw [hr.2 h.2.2]; rfl
 intro x hx
 refine Ok.ite (fun c=>Ok.some ⟨fun h=>(by cases h),fun ⟨C,B,z,h,hv⟩=>?_⟩) (fun c=>?_)
 ·have:=hx.2 ⟨hv.1.1,hv.2.2.1.1,h.hf⟩
  rw [this] at c; cases c
 obtain ⟨hJl,hQl,hf⟩:=hx.1 c
 obtain ⟨C,B,z,hs,hsr⟩:=WS p0 p1 p2 p3 p4 p5 p6 p7 p8 p9 hf
 have hC:=hs.hC
 have hB:=hs.hB
 have hSl:=hf.2.1
 refine Ok.bind (Q:=fun y=>match y with | .inl _=>∀ i,0<=i->i<p3->at' J i=0\/(at' J i=1/\p6=1/\i≠p3-1) | .inr r=>r=false/\¬ (Jn p0 p1 p2 p3 p4 p5 p6 p7 p8 p9 J/\at' J (p3-1)=0)) ?_ ?_
 ·unfold wE.l3
  refine w5 (fun i=>0<=i/\i<=p3/\∀ q,0<=q->q<i->at' J q=0\/(at' J q=1/\p6=1/\q≠p3-1)) (fun i=>(p3-i).toNat) _ ?_ 5000 _ ⟨by omega,by omega,fun q _ _=>by omega⟩ (by omega)
  rintro next i ⟨g1,g2,g3⟩ ih
  refine Ok.ite (fun d=>?_) (fun d=>Ok.some (fun q q0 q1=>g3 q q0 (by have:=df d; omega)))
  have d:=dt d
  have k:wb .i64 (p3-1)=p3-1:=zY (by omega) (by omega)
  refine Ok.gd ⟨g1,by omega⟩ ?_
  dsimp only
  rw [k]
  refine Ok.ite (fun e=>Ok.some ⟨rfl,fun h=>?_⟩) (fun e=>?_)
  ·obtain ⟨e1,e2⟩:=xA e
   have e1:at' J i≠0:=xT e1
   have hv:=h.1.2 i g1 d
   rcases Wy e2 with e2 | e2
   ·rcases Wy e2 with e2 | e2
    ·have e2:at' J i≠1:=xT e2
     rcases hv with hv | hv
     ·exact e1 hv
     ·exact e2 hv.2
    ·have e2:p6=0:=by simpa using e2
     rcases hv with hv | hv
     ·exact e1 hv
     ·omega
   ·have e2:i=p3-1:=by simpa using e2
    rw [e2] at e1
    exact e1 h.2
  ·have ek:=kw1 (x:=i) (by omega) (by omega)
   refine ih _ ⟨by omega,by omega,fun q q0 q1=>?_⟩ (by omega)
   by_cases e3:q=i
   ·rw [e3]
    rcases vT e with e | e
    ·exact .inl (xI e)
    ·obtain ⟨e,e4⟩:=vF e
     obtain ⟨e5,e6⟩:=vF e
     have e6:¬ p6=0:=by simpa using e6
     have e4:¬ i=p3-1:=by simpa using e4
     exact .inr ⟨xI e5,by omega,e4⟩
   ·exact g3 q q0 (by omega)
 intro y hy
 cases y with
 | inr r =>
  obtain ⟨rfl,hn⟩:=hy
  exact Ok.some ⟨fun h=>(by cases h),fun h=>absurd (show Jn p0 p1 p2 p3 p4 p5 p6 p7 p8 p9 J/\at' J (p3-1)=0 from ⟨((Z9 p0 p1 p2 p3 p4 p5 p6 p7 p8 p9 hs).1 h).1,((Z9 p0 p1 p2 p3 p4 p5 p6 p7 p8 p9 hs).1 h).2.1⟩) hn⟩
 | inl u =>
  have hy:∀ i,0<=i->i<p3->at' J i=0\/(at' J i=1/\p6=1/\i≠p3-1):=hy
  have hJ:Jn p0 p1 p2 p3 p4 p5 p6 p7 p8 p9 J:=⟨hJl,fun i i0 i1=>by rcases hy i i0 i1 with h | h; exact .inl h; exact .inr ⟨h.2.1,h.1⟩⟩
  have hJe:at' J (p3-1)=0:=by
   rcases hy (p3-1) (by omega) (by omega) with h | h
   ·exact h
   ·exact absurd rfl h.2.2
  have hcell:∀ c b:Int,0<=c->c<p2->0<=b->b<p3->at' (row (rw_ C B z) c) b=z (b*p2+c):=by
   intro c b c0 c1 b0 b1
   have e:=vd (C:=C) (B:=B) (z:=z) (c:=c.toNat) (b:=b.toNat) (by omega) (by omega)
   rw [show ((c.toNat:Nat):Int)=c by omega,show ((b.toNat:Nat):Int)=b by omega] at e
   rw [e]
   congr 1
   rcases h2 with h2 | h2
   ·have:C=1:=by omega
    subst this; rw [h2]; omega
   ·have:C=2:=by omega
    subst this; rw [h2]; omega
  refine Ok.bind (Ok.is hsr) ?_
  rintro _ rfl
  refine Ok.bind (Q:=fun y=>match y with | .inl _=>PV p0 p1 p2 p3 p4 p5 p6 p7 p8 p9 J S Q (rw_ C B z) | .inr r=>r=false/\¬ PV p0 p1 p2 p3 p4 p5 p6 p7 p8 p9 J S Q (rw_ C B z)) ?_ ?_
  ·unfold wE.l0
   refine w5 (fun i=>0<=i/\i<=p4/\∀ q,0<=q->q<i->Sh p2 p3 (blk Q q)/\∀ c,0<=c->c<p2->∀ b,0<=b->b<p3->lev (at' (row (blk Q q) c) b) (at' (row S c) b) (at' (row (rw_ C B z) c) b)) (fun i=>(p4-i).toNat) _ ?_ 5000 _ ⟨by omega,by omega,fun q _ _=>by omega⟩ (by omega)
   rintro next i ⟨g1,g2,g3⟩ ih
   refine Ok.ite (fun d=>?_) (fun d=>Ok.some ?_)
   ·have d:=dt d
    refine Ok.gd ⟨g1,by omega⟩ (Ok.ite (fun e=>Ok.some ⟨rfl,fun h=>?_⟩) (fun e=>?_))
    ·have e:((blk Q i).length:Int)≠p2:=xT e
     exact e (h.2.2.1.2 i g1 d).1
    have e:((blk Q i).length:Int)=p2:=xI e
    refine Ok.bind (Q:=fun y=>match y with | .inl _=>Sh p2 p3 (blk Q i)/\∀ c,0<=c->c<p2->∀ b,0<=b->b<p3->lev (at' (row (blk Q i) c) b) (at' (row S c) b) (at' (row (rw_ C B z) c) b) | .inr r=>r=false/\¬ PV p0 p1 p2 p3 p4 p5 p6 p7 p8 p9 J S Q (rw_ C B z)) ?_ ?_
    ·unfold wE.l1
     refine w5 (fun c=>0<=c/\c<=p2/\∀ q,0<=q->q<c->((row (blk Q i) q).length:Int)=p3/\∀ b,0<=b->b<p3->lev (at' (row (blk Q i) q) b) (at' (row S q) b) (at' (row (rw_ C B z) q) b)) (fun c=>(p2-c).toNat) _ ?_ 5000 _ ⟨by omega,by omega,fun q _ _=>by omega⟩ (by omega)
     rintro next2 c ⟨f1,f2,f3⟩ ih2
     refine Ok.ite (fun d2=>?_) (fun d2=>Ok.some ⟨⟨e,fun q q0 q1=>(f3 q q0 (by have:=df d2; omega)).1⟩,fun q q0 q1=>(f3 q q0 (by have:=df d2; omega)).2⟩)
     have d2:=dt d2
     refine Ok.gd ⟨g1,by omega⟩ (Ok.gd ⟨f1,by show c<((blk Q i).length:Int); omega⟩ (Ok.ite (fun e2=>Ok.some ⟨rfl,fun h=>?_⟩) (fun e2=>?_)))
     ·have e2:((row (blk Q i) c).length:Int)≠p3:=xT e2
      exact e2 ((h.2.2.1.2 i g1 d).2 c f1 d2)
     have e2:((row (blk Q i) c).length:Int)=p3:=xI e2
     have hSr:=(hf.2.2 c f1 d2).1
     refine Ok.bind (Q:=fun y=>match y with | .inl _=>∀ b,0<=b->b<p3->lev (at' (row (blk Q i) c) b) (at' (row S c) b) (at' (row (rw_ C B z) c) b) | .inr r=>r=false/\¬ PV p0 p1 p2 p3 p4 p5 p6 p7 p8 p9 J S Q (rw_ C B z)) ?_ ?_
     ·unfold wE.l2
      refine w5 (fun b=>0<=b/\b<=p3/\∀ q,0<=q->q<b->lev (at' (row (blk Q i) c) q) (at' (row S c) q) (at' (row (rw_ C B z) c) q)) (fun b=>(p3-b).toNat) _ ?_ 5000 _ ⟨by omega,by omega,fun q _ _=>by omega⟩ (by omega)
      rintro next3 b ⟨e3,e4,e5⟩ ih3
      refine Ok.ite (fun d3=>?_) (fun d3=>Ok.some (fun q q0 q1=>e5 q q0 (by have:=df d3; omega)))
      have d3:=dt d3
      have hbc:0<=b*p2+c/\b*p2+c<((B*C:Nat):Int)/\b*p2<=20/\0<=b*p2:=by
       rcases h2 with h2 | h2
       ·have:C=1:=by omega
        subst this; rw [h2]; omega
       ·have:C=2:=by omega
        subst this; rw [h2]; omega
      have k1:wb .i64 (b*p2)=b*p2:=zY (by omega) (by omega)
      have k2:wb .i64 (b*p2+c)=b*p2+c:=zY (by omega) (by omega)
      have hz:Kd.nth (.int .i64) (tabv (B*C) z) (Int.toNat (b*p2+c))=at' (row (rw_ C B z) c) b:=by
       rw [hcell c b f1 d2 e3 d3]
       exact yd (B*C) z _ hbc.1 hbc.2.1
      have htl:=kT (B*C) z
      refine Ok.gd ⟨g1,by omega⟩ (Ok.gd ⟨f1,by show c<((blk Q i).length:Int); omega⟩ (Ok.gd ⟨e3,by show b<((row (blk Q i) c).length:Int); omega⟩ (Ok.gd ⟨f1,by omega⟩ (Ok.gd ⟨e3,by show b<((row S c).length:Int); omega⟩ ?_))))
      dsimp only
      rw [k1,k2,hz]
      refine Ok.gd ⟨hbc.1,by rw [htl]; exact hbc.2.1⟩ (Ok.bind (ug _ _ _) ?_)
      rintro ⟨v,er⟩ hl
      refine Ok.ite (fun e6=>Ok.some ⟨rfl,fun h=>?_⟩) (fun e6=>?_)
      ·have e6:er≠0:=xT e6
       exact e6 (hl.2 (h.2.2.2 i g1 d c f1 d2 b e3 d3))
      ·have e6:er=0:=xI e6
       have ek:=kw1 (x:=b) (by omega) (by omega)
       refine ih3 _ ⟨by omega,by omega,fun q q0 q1=>?_⟩ (by omega)
       by_cases e7:q=b
       ·rw [e7]; exact hl.1 e6
       ·exact e5 q q0 (by omega)
     ·intro y hy
      cases y with
      | inl u =>
       have ek:=kw1 (x:=c) (by omega) (by omega)
       refine ih2 _ ⟨by omega,by omega,fun q q0 q1=>?_⟩ (by omega)
       by_cases e7:q=c
       ·rw [e7]; exact ⟨e2,hy⟩
       ·exact f3 q q0 (by omega)
      | inr r=>exact Ok.some hy
    ·intro y hy
     cases y with
     | inl u =>
      have ek:=kw1 (x:=i) (by omega) (by omega)
      refine ih _ ⟨by omega,by omega,fun q q0 q1=>?_⟩ (by omega)
      by_cases e7:q=i
      ·rw [e7]; exact hy
      ·exact g3 q q0 (by omega)
     | inr r=>exact Ok.some hy
   ·have d:=df d
    exact ⟨hJ,hJe,⟨hQl,fun q q0 q1=>(g3 q q0 (by omega)).1⟩,fun q q0 q1=>(g3 q q0 (by omega)).2⟩
  ·intro y hy
   cases y with
   | inl u=>exact Ok.some ⟨fun _=>(Z9 p0 p1 p2 p3 p4 p5 p6 p7 p8 p9 hs).2 hy,fun _=>rfl⟩
   | inr r =>
    obtain ⟨rfl,hn⟩:=hy
    exact Ok.some ⟨fun h=>(by cases h),fun h=>absurd ((Z9 p0 p1 p2 p3 p4 p5 p6 p7 p8 p9 hs).1 h) hn⟩
end Go.Fo
