/- Parameters: what their share says; frames. -/
import Derived.Test.YtiihmaaobmpababGreatSaOa
namespace Go.Fo
set_option maxRecDepth 6000
abbrev blk (Q:List (List (List Int))) (i:Int):List (List Int):=Kd.nth (.slice (.slice (.int .i64))) Q (Int.toNat i)
def Sh (C B:Int) (S:List (List Int)):Prop:=(S.length:Int)=C/\∀ c,0<=c->c<C->((row S c).length:Int)=B
def Cd (M C B:Int) (Q:List (List (List Int))):Prop:=(Q.length:Int)=M/\∀ i,0<=i->i<M->Sh C B (blk Q i)
def Jn (p0 p1 p2 p3 p4 p5 p6 p7 p8 p9:Int) (J:List Int):Prop:=(J.length:Int)=p3/\∀ i,0<=i->i<p3->at' J i=0\/(p6=1/\at' J i=1)
theorem Yx (q s b:Int):Ok (fun _=>True) (kQ 5000 q s b):=by
 refine Ok.bind (Q:=fun r=>r=true->0<=s/\s<=15/\(b=0\/2<=b/\b<=16)) (Ok.some (fun h=>?_)) ?_
 ·have h:(bif (bif decide (s>=0) then decide (s<=15) else false) then (bif (b==0) then true else (bif decide (b>=2) then decide (b<=16) else false)) else false)=true:=h
  have e1:decide (s>=0)=true:=by cases q:decide (s>=0)<;>rw [q] at h<;>first | rfl | cases h
  rw [e1] at h
  have e2:decide (s<=15)=true:=by cases q:decide (s<=15)<;>rw [q] at h<;>first | rfl | cases h
  rw [e2] at h
  refine ⟨dt e1,dt e2,?_⟩
  cases e3:(b==0)
  ·rw [e3] at h
   have e4:decide (b>=2)=true:=by cases q:decide (b>=2)<;>rw [q] at h<;>first | rfl | cases h
   rw [e4] at h
   have e5:decide (b<=16)=true:=h
   exact .inr ⟨dt e4,dt e5⟩
  ·exact .inl (by simpa using e3)
 intro r hr
 refine Ok.bind (Q:=fun x=>x=false->r=true) ?_ ?_
 ·refine Ok.ite (fun c=>Ok.some (fun h=>?_)) (fun c=>?_)
  ·rw [c] at h; cases h
  ·have c:r=true:=by simpa using c
   refine Ok.ite (fun _=>Ok.some (fun _=>c)) (fun _=>Ok.ite (fun _=>Ok.some (fun _=>c)) (fun _=>Ok.gd (fun e=>?_) (Ok.some (fun _=>c))))
   have:=hr c
   omega
 intro x hx
 refine Ok.ite (fun _=>Ok.some trivial) (fun c=>?_)
 obtain ⟨s0,s1,hb⟩:=hr (hx c)
 refine Ok.ite (fun _=>Ok.some trivial) (fun c=>?_)
 have c:b≠0:=by simpa using c
 refine Ok.gd s0 (Ok.gd (by omega) (Ok.gd ?_ (Ok.some trivial)))
 have h:b=2\/b=3\/b=4\/b=5\/b=6\/b=7\/b=8\/b=9\/b=10\/b=11\/b=12\/b=13\/b=14\/b=15\/b=16:=by omega
 rcases h with rfl | rfl | rfl | rfl | rfl | rfl | rfl | rfl | rfl | rfl | rfl | rfl | rfl | rfl | rfl<;>decide
theorem KM (p0 p1 p2 p3 p4 p5 p6 p7 p8 p9:Int) (J:List Int) (hJ:J.length<=4000):Ok (fun r=>r=true->Jn p0 p1 p2 p3 p4 p5 p6 p7 p8 p9 J) (kt 5000 J p3 p0 p1 p2 p3 p4 p5 p6 p7 p8 p9):=by
 refine Ok.bind (Q:=fun r=>r=true->Jn p0 p1 p2 p3 p4 p5 p6 p7 p8 p9 J) ?_ (fun r hr=>Ok.some hr)
 refine Ok.ite (fun c=>?_) (fun _=>Ok.some (fun h=>by cases h))
 have c:(J.length:Int)=p3:=by simpa using c
 refine Ok.bind (Q:=fun r=>r=false->Jn p0 p1 p2 p3 p4 p5 p6 p7 p8 p9 J) ?_ (fun r hr=>Ok.some (fun h=>hr (by simpa using h)))
 refine Ok.bind (Q:=fun r=>r<0->Jn p0 p1 p2 p3 p4 p5 p6 p7 p8 p9 J) ?_ (fun r hr=>Ok.some (fun h=>hr (by have:=df h; omega)))
 refine Ok.bind (Q:=fun z=>match z with | .inl _=>Jn p0 p1 p2 p3 p4 p5 p6 p7 p8 p9 J | .inr i=>0<=i) ?_ ?_
 ·unfold zj.l0
  refine w5 (fun i=>0<=i/\i<=(J.length:Int)/\∀ q,0<=q->q<i->at' J q=0\/(p6=1/\at' J q=1)) (fun i=>((J.length:Int)-i).toNat) _ ?_ 5000 _ ⟨by omega,by omega,fun q _ _=>by omega⟩ (by omega)
  rintro next i ⟨h1,h2,h3⟩ ih
  refine Ok.ite (fun d=>?_) (fun d=>Ok.some ⟨c,fun q q0 q1=>h3 q q0 (by have:=df d; omega)⟩)
  have d:=dt d
  refine Ok.gd ⟨h1,d⟩ (Ok.bind (Q:=fun r=>r=false->at' J i=0\/(p6=1/\at' J i=1)) (Ok.bind (Q:=fun r=>r=true->at' J i=0\/(p6=1/\at' J i=1)) (Ok.some (fun h=>?_)) (fun r hr=>Ok.some (fun h=>hr (by simpa using h)))) ?_)
  ·have h:(bif (at' J i==0) then true else (bif (p6==1) then (at' J i==1) else false))=true:=h
   cases e1:(at' J i==0)
   ·rw [e1] at h
    cases e2:(p6==1)
    ·rw [e2] at h; cases h
    ·rw [e2] at h
     have h:(at' J i==1)=true:=h
     exact .inr ⟨by simpa using e2,by simpa using h⟩
   ·exact .inl (by simpa using e1)
  ·intro r hr
   refine Ok.ite (fun _=>Ok.some h1) (fun c2=>?_)
   have e:=kw1 (x:=i) (by omega) (by omega)
   refine ih _ ⟨by omega,by omega,fun q q0 q1=>?_⟩ (by omega)
   by_cases e2:q=i
   ·rw [e2]; exact hr c2
   ·exact h3 q q0 (by omega)
 ·intro z hz
  cases z with
  | inl u=>exact Ok.some (fun _=>hz)
  | inr i=>exact Ok.some (fun h=>by have:0<=i:=hz; omega)
theorem JG (p0 p1 p2 p3 p4 p5 p6 p7 p8 p9:Int) (Q:List (List (List Int))) (hQ:Q.length<=4000):Ok (fun r=>r=true->(Q.length:Int)=p4/\∀ i,0<=i->i<p4->((blk Q i).length:Int)=p2) (qQ 5000 Q p4 p0 p1 p2 p3 p4 p5 p6 p7 p8 p9):=by
 refine Ok.bind (Q:=fun r=>r=true->(Q.length:Int)=p4/\∀ i,0<=i->i<p4->((blk Q i).length:Int)=p2) ?_ (fun r hr=>Ok.some hr)
 refine Ok.ite (fun c=>?_) (fun _=>Ok.some (fun h=>by cases h))
 have c:(Q.length:Int)=p4:=by simpa using c
 refine Ok.bind (Q:=fun r=>r=false->(Q.length:Int)=p4/\∀ i,0<=i->i<p4->((blk Q i).length:Int)=p2) ?_ (fun r hr=>Ok.some (fun h=>hr (by simpa using h)))
 refine Ok.bind (Q:=fun r=>r<0->(Q.length:Int)=p4/\∀ i,0<=i->i<p4->((blk Q i).length:Int)=p2) ?_ (fun r hr=>Ok.some (fun h=>hr (by have:=df h; omega)))
 refine Ok.bind (Q:=fun z=>match z with | .inl _=>(Q.length:Int)=p4/\∀ i,0<=i->i<p4->((blk Q i).length:Int)=p2 | .inr i=>0<=i) ?_ ?_
 ·unfold w6.l0
  refine w5 (fun i=>0<=i/\i<=(Q.length:Int)/\∀ q,0<=q->q<i->((blk Q q).length:Int)=p2) (fun i=>((Q.length:Int)-i).toNat) _ ?_ 5000 _ ⟨by omega,by omega,fun q _ _=>by omega⟩ (by omega)
  rintro next i ⟨h1,h2,h3⟩ ih
  refine Ok.ite (fun d=>?_) (fun d=>Ok.some ⟨c,fun q q0 q1=>h3 q q0 (by have:=df d; omega)⟩)
  have d:=dt d
  refine Ok.gd ⟨h1,d⟩ (Ok.bind (Q:=fun r=>r=false->((blk Q i).length:Int)=p2) (Ok.bind (Q:=fun r=>r=true->((blk Q i).length:Int)=p2) (Ok.some (fun h=>by simpa using h)) (fun r hr=>Ok.some (fun h=>hr (by simpa using h)))) ?_)
  intro r hr
  refine Ok.ite (fun _=>Ok.some h1) (fun c2=>?_)
  have e:=kw1 (x:=i) (by omega) (by omega)
  refine ih _ ⟨by omega,by omega,fun q q0 q1=>?_⟩ (by omega)
  by_cases e2:q=i
  ·rw [e2]; exact hr c2
  ·exact h3 q q0 (by omega)
 ·intro z hz
  cases z with
  | inl u=>exact Ok.some (fun _=>hz)
  | inr i=>exact Ok.some (fun h=>by have:0<=i:=hz; omega)
def Val (p0 p1 p2 p3 p4 p5 p6 p7 p8 p9:Int) (J:List Int) (S:List (List Int)) (Q:List (List (List Int))) (sh:List (List Int)):Prop :=
  Fit p0 p1 p2 p3 p4 p5 p6 p7 p8 p9 S/\Jn p0 p1 p2 p3 p4 p5 p6 p7 p8 p9 J/\Cd p4 p2 p3 Q/\Sh p2 p3 sh/\zd 5000 p0 p1 p2 p3 p4 p5 p6 p7 p8 p9 S=some (sh,0)
theorem VX {p0 p1 p2 p3 p4 p5 p6 p7 p8 p9:Int} {S:List (List Int)} (hf:Fit p0 p1 p2 p3 p4 p5 p6 p7 p8 p9 S) (ha:wG 5000 p0 p1 p2 p3 p4 p5 p6 p7 p8 p9 S=some 0):∃ sh,zd 5000 p0 p1 p2 p3 p4 p5 p6 p7 p8 p9 S=some (sh,0)/\Sh p2 p3 sh:=by
 have h2:=(fit hf).2.1
 have h3:=(fit hf).2.2.1
 obtain ⟨a,b,_,_,_,_,_,h,_⟩:=XM hf ha p2.toNat p3.toNat (by omega) (by omega)
 refine ⟨_,h,by rw [jn]; omega,fun c c0 c1=>?_⟩
 obtain ⟨n,rfl⟩:∃ n:Nat,c=n:=⟨c.toNat,by omega⟩
 rw [yI (by omega)]; omega
theorem Ys (p0 p1 p2 p3 p4 p5 p6 p7 p8 p9:Int) (J:List Int) (S:List (List Int)) (Q:List (List (List Int))) (hm:yf p0 p1 p2 p3 p4 p5 p6 p7 p8 p9) (hJ:J.length<=4000) (hQ:Q.length<=4000) :
  Ok (fun r=>r.2=true->Val p0 p1 p2 p3 p4 p5 p6 p7 p8 p9 J S Q r.1) (wr 5000 p0 p1 p2 p3 p4 p5 p6 p7 p8 p9 J S Q):=by
 have h2:p2=1\/p2=2:=hm.1.2.2.2.1
 have h3:p3=4\/p3=8:=hm.1.2.2.2.2.1
 have h4:=hm.1.2.2.2.2.2.1
 refine Ok.bind (Q:=fun x=>x=false->Jn p0 p1 p2 p3 p4 p5 p6 p7 p8 p9 J) ?_ ?_
 ·refine Ok.bind (KM p0 p1 p2 p3 p4 p5 p6 p7 p8 p9 J hJ) ?_
  intro r hr
  refine Ok.ite (fun c=>Ok.some (fun h=>?_)) (fun c=>?_)
  ·rw [c] at h; cases h
  ·have c:r=true:=by simpa using c
   have hj:=(hr c).1
   have e:wb .i64 (p3-1)=p3-1:=zY (by omega) (by omega)
   refine Ok.gd ⟨by rw [e]; omega,by rw [e]; omega⟩ (Ok.bind (Q:=fun _=>True) (Ok.some trivial) (fun x _=>Ok.some (fun _=>hr c)))
 intro x hx
 refine Ok.ite (fun _=>Ok.some (fun h=>by cases h)) (fun c=>?_)
 have hj:=hx c
 rcases KP p0 p1 p2 p3 p4 p5 p6 p7 p8 p9 S hm with ⟨ha,hf⟩ | ⟨ha,_⟩
 ·obtain ⟨sh,hs,hsh⟩:=VX hf ha
  refine Ok.bind (Ok.is hs) ?_
  rintro _ rfl
  refine Ok.ite (fun h=>by cases h) (fun _=>?_)
  refine Ok.bind (JG p0 p1 p2 p3 p4 p5 p6 p7 p8 p9 Q hQ) ?_
  intro ok hok
  refine Ok.bind (Q:=fun r=>r=true->ok=true/\∀ i,0<=i->i<p4->∀ c,0<=c->c<p2->((row (blk Q i) c).length:Int)=p3) ?_ ?_
  ·unfold wr.l0
   refine wA (fun o i=>0<=i/\i<=(Q.length:Int)/\(o=true->ok=true/\∀ q,0<=q->q<i->∀ c,0<=c->c<p2->((row (blk Q q) c).length:Int)=p3)) (fun _ i=>((Q.length:Int)-i).toNat) _ ?_ 5000 _ _ ⟨by omega,by omega,fun h=>⟨h,fun q _ _=>by omega⟩⟩ (by omega)
   rintro next o i ⟨g1,g2,g3⟩ ih
   refine Ok.ite (fun d=>?_) (fun d=>Ok.some (fun h=>⟨(g3 h).1,fun q q0 q1=>(g3 h).2 q q0 (by have:=df d; have:=(hok (g3 h).1).1; omega)⟩))
   have d:=dt d
   refine Ok.gd ⟨g1,d⟩ (Ok.bind (Q:=fun r=>r=true->o=true/\∀ c,0<=c->c<p2->((row (blk Q i) c).length:Int)=p3) ?_ ?_)
   ·unfold wr.l1
    refine wA (fun o' c=>0<=c/\c<=p2/\(o'=true->o=true/\∀ q,0<=q->q<c->((row (blk Q i) q).length:Int)=p3)) (fun _ c=>(p2-c).toNat) _ ?_ 5000 _ _ ⟨by omega,by omega,fun h=>⟨h,fun q _ _=>by omega⟩⟩ (by omega)
    rintro next2 o' c ⟨f1,f2,f3⟩ ih2
    refine Ok.ite (fun d2=>?_) (fun d2=>Ok.some (fun h=>⟨(f3 h).1,fun q q0 q1=>(f3 h).2 q q0 ?_⟩))
    ·have hd:o'=true/\c<p2:=by
      cases e:o'
      ·have d2:(bif o' then decide (c<p2) else false)=true:=d2
       rw [e] at d2; cases d2
      ·have d2:(bif o' then decide (c<p2) else false)=true:=d2
       rw [e] at d2; exact ⟨rfl,dt d2⟩
     have ho:=(f3 hd.1).1
     have hb:=(hok (g3 ho).1)
     have hbl:=hb.2 i g1 (by omega)
     refine Ok.gd ⟨f1,by show c<((blk Q i).length:Int); omega⟩ (Ok.bind (Q:=fun r=>r=true->((row (blk Q i) c).length:Int)=p3) ?_ ?_)
     ·unfold wr.l2
      refine wA (fun o2 b=>0<=b/\b<=p3/\(o2=true->((row (blk Q i) c).length:Int)=p3)) (fun _ b=>(p3-b).toNat) _ ?_ 5000 _ _ ⟨by omega,by omega,fun h=>by simpa using h⟩ (by omega)
      rintro next3 o2 b ⟨e1,e2,e3⟩ ih3
      refine Ok.ite (fun d3=>?_) (fun _=>Ok.some e3)
      have hd3:o2=true/\b<p3:=by
       cases e:o2
       ·have d3:(bif o2 then decide (b<p3) else false)=true:=d3
        rw [e] at d3; cases d3
       ·have d3:(bif o2 then decide (b<p3) else false)=true:=d3
        rw [e] at d3; exact ⟨rfl,dt d3⟩
      have hrl:=e3 hd3.1
      have hS:=hf.2.2 c f1 hd.2
      have hS2:=hf.2.1
      have hsl:=hsh.2 c f1 hd.2
      have hs1:=hsh.1
      refine Ok.gd ⟨f1,by show c<((blk Q i).length:Int); omega⟩ (Ok.gd ⟨e1,by show b<((row (blk Q i) c).length:Int); omega⟩ (Ok.gd ⟨f1,by omega⟩ (Ok.gd ⟨e1,by show b<((row S c).length:Int); omega⟩ (Ok.gd ⟨f1,by omega⟩ (Ok.gd ⟨e1,by show b<((row sh c).length:Int); omega⟩ (Ok.bind (Yx _ _ _) ?_))))))
      rintro ⟨x1,x2⟩ _
      have e:=kw1 (x:=b) (by omega) (by omega)
      exact ih3 _ _ ⟨by omega,by omega,fun _=>hrl⟩ (by omega)
     ·intro r hr
      have e:=kw1 (x:=c) (by omega) (by omega)
      refine ih2 _ _ ⟨by omega,by omega,fun h=>⟨ho,fun q q0 q1=>?_⟩⟩ (by omega)
      by_cases e2:q=c
      ·rw [e2]; exact hr h
      ·exact (f3 hd.1).2 q q0 (by omega)
    ·have d2:(bif o' then decide (c<p2) else false)=false:=d2
     rw [h] at d2; have:=df d2; omega
   ·intro r hr
    have e:=kw1 (x:=i) (by omega) (by omega)
    refine ih _ _ ⟨by omega,by omega,fun h=>⟨(g3 (hr h).1).1,fun q q0 q1=>?_⟩⟩ (by omega)
    by_cases e2:q=i
    ·rw [e2]; exact (hr h).2
    ·exact (g3 (hr h).1).2 q q0 (by omega)
  ·intro r hr
   refine Ok.some (fun h=>?_)
   obtain ⟨o1,o2⟩:=hr h
   exact ⟨hf,hj,⟨(hok o1).1,fun i i0 i1=>⟨(hok o1).2 i i0 i1,o2 i i0 i1⟩⟩,hsh,hs⟩
 ·refine Ok.bind (Ok.is (VM ha)) ?_
  rintro _ rfl
  exact Ok.ite (fun _=>Ok.some (fun h=>by cases h)) (fun h=>by cases h)
end Go.Fo
