/- Which parameters may be: just when their share says so. -/
import Derived.Test.YtiihmaaobmpababGreatSaBc
namespace Go.Fo
set_option maxRecDepth 6000
theorem Q9 (p0 p1 p2 p3 p4 p5 p6 p7 p8 p9:Int) (J:List Int) (hJ:J.length<=4000):Ok (fun r=>r=true↔Jn p0 p1 p2 p3 p4 p5 p6 p7 p8 p9 J) (kt 5000 J p3 p0 p1 p2 p3 p4 p5 p6 p7 p8 p9):=by
 refine Ok.bind (Q:=fun r=>r=true↔Jn p0 p1 p2 p3 p4 p5 p6 p7 p8 p9 J) ?_ (fun r hr=>Ok.some hr)
 refine Ok.ite (fun c=>?_) (fun c=>Ok.some ⟨fun h=>(by cases h),fun h=>by rw [beq_eq_false_iff_ne] at c; exact absurd h.1 c⟩)
 have c:(J.length:Int)=p3:=by simpa using c
 refine Ok.bind (Q:=fun r=>r=false↔Jn p0 p1 p2 p3 p4 p5 p6 p7 p8 p9 J) ?_ (fun r hr=>Ok.some (by rw [<-hr]; simp))
 refine Ok.bind (Q:=fun r=>r<0↔Jn p0 p1 p2 p3 p4 p5 p6 p7 p8 p9 J) ?_ (fun r hr=>Ok.some (by rw [<-hr,decide_eq_false_iff_not]; omega))
 refine Ok.bind (Q:=fun z=>match z with | .inl _=>Jn p0 p1 p2 p3 p4 p5 p6 p7 p8 p9 J | .inr i=>0<=i/\¬ Jn p0 p1 p2 p3 p4 p5 p6 p7 p8 p9 J) ?_ ?_
 ·unfold zj.l0
  refine w5 (fun i=>0<=i/\i<=(J.length:Int)/\∀ q,0<=q->q<i->at' J q=0\/(p6=1/\at' J q=1)) (fun i=>((J.length:Int)-i).toNat) _ ?_ 5000 _ ⟨by omega,by omega,fun q _ _=>by omega⟩ (by omega)
  rintro next i ⟨h1,h2,h3⟩ ih
  refine Ok.ite (fun d=>?_) (fun d=>Ok.some ⟨c,fun q q0 q1=>h3 q q0 (by have:=df d; omega)⟩)
  have d:=dt d
  refine Ok.gd ⟨h1,d⟩ (Ok.bind (Q:=fun r=>r=false↔(at' J i=0\/(p6=1/\at' J i=1))) (Ok.bind (Q:=fun r=>r=true↔(at' J i=0\/(p6=1/\at' J i=1))) (Ok.some ?_) (fun r hr=>Ok.some (by rw [<-hr]; simp))) ?_)
  ·show (bif (at' J i==0) then true else (bif (p6==1) then (at' J i==1) else false))=true↔_
   cases e1:(at' J i==0)
   ·have e1':at' J i≠0:=by simpa using e1
    cases e2:(p6==1)
    ·have e2':p6≠1:=by simpa using e2
     exact ⟨fun h=>(by cases h),fun h=>by omega⟩
    ·have e2':p6=1:=by simpa using e2
     show (at' J i==1)=true↔_
     rw [beq_iff_eq]
     exact ⟨fun h=>.inr ⟨e2',h⟩,fun h=>by omega⟩
   ·exact ⟨fun _=>.inl (by simpa using e1),fun _=>rfl⟩
  ·intro r hr
   refine Ok.ite (fun c2=>Ok.some ⟨h1,fun hj=>?_⟩) (fun c2=>?_)
   ·have:=hr.2 (hj.2 i h1 (by omega))
    rw [c2] at this; cases this
   ·have e:=kw1 (x:=i) (by omega) (by omega)
    refine ih _ ⟨by omega,by omega,fun q q0 q1=>?_⟩ (by omega)
    by_cases e2:q=i
    ·rw [e2]; exact hr.1 c2
    ·exact h3 q q0 (by omega)
 ·intro z hz
  cases z with
  | inl u=>exact Ok.some ⟨fun _=>hz,fun _=>by decide⟩
  | inr i=>exact Ok.some ⟨fun h=>by have:0<=i:=hz.1; omega,fun h=>absurd h hz.2⟩
def Qc (p0 p1 p2 p3 p4 p5 p6 p7 p8 p9:Int) (Q:List (List (List Int))):Prop:=(Q.length:Int)=p4/\∀ i,0<=i->i<p4->((blk Q i).length:Int)=p2
theorem Ky (p0 p1 p2 p3 p4 p5 p6 p7 p8 p9:Int) (Q:List (List (List Int))) (hQ:Q.length<=4000):Ok (fun r=>r=true↔Qc p0 p1 p2 p3 p4 p5 p6 p7 p8 p9 Q) (qQ 5000 Q p4 p0 p1 p2 p3 p4 p5 p6 p7 p8 p9):=by
 refine Ok.bind (Q:=fun r=>r=true↔Qc p0 p1 p2 p3 p4 p5 p6 p7 p8 p9 Q) ?_ (fun r hr=>Ok.some hr)
 refine Ok.ite (fun c=>?_) (fun c=>Ok.some ⟨fun h=>(by cases h),fun h=>by rw [beq_eq_false_iff_ne] at c; exact absurd h.1 c⟩)
 have c:(Q.length:Int)=p4:=by simpa using c
 refine Ok.bind (Q:=fun r=>r=false↔Qc p0 p1 p2 p3 p4 p5 p6 p7 p8 p9 Q) ?_ (fun r hr=>Ok.some (by rw [<-hr]; simp))
 refine Ok.bind (Q:=fun r=>r<0↔Qc p0 p1 p2 p3 p4 p5 p6 p7 p8 p9 Q) ?_ (fun r hr=>Ok.some (by rw [<-hr,decide_eq_false_iff_not]; omega))
 refine Ok.bind (Q:=fun z=>match z with | .inl _=>Qc p0 p1 p2 p3 p4 p5 p6 p7 p8 p9 Q | .inr i=>0<=i/\¬ Qc p0 p1 p2 p3 p4 p5 p6 p7 p8 p9 Q) ?_ ?_
 ·unfold w6.l0
  refine w5 (fun i=>0<=i/\i<=(Q.length:Int)/\∀ q,0<=q->q<i->((blk Q q).length:Int)=p2) (fun i=>((Q.length:Int)-i).toNat) _ ?_ 5000 _ ⟨by omega,by omega,fun q _ _=>by omega⟩ (by omega)
  rintro next i ⟨h1,h2,h3⟩ ih
  refine Ok.ite (fun d=>?_) (fun d=>Ok.some ⟨c,fun q q0 q1=>h3 q q0 (by have:=df d; omega)⟩)
  have d:=dt d
  refine Ok.gd ⟨h1,d⟩ (Ok.bind (Q:=fun r=>r=false↔((blk Q i).length:Int)=p2) (Ok.bind (Q:=fun r=>r=true↔((blk Q i).length:Int)=p2) (Ok.some (by show (((blk Q i).length:Int)==p2)=true↔_; rw [beq_iff_eq])) (fun r hr=>Ok.some (by rw [<-hr]; simp))) ?_)
  intro r hr
  refine Ok.ite (fun c2=>Ok.some ⟨h1,fun hj=>?_⟩) (fun c2=>?_)
  ·have:=hr.2 (hj.2 i h1 (by omega))
   rw [c2] at this; cases this
  ·have e:=kw1 (x:=i) (by omega) (by omega)
   refine ih _ ⟨by omega,by omega,fun q q0 q1=>?_⟩ (by omega)
   by_cases e2:q=i
   ·rw [e2]; exact hr.1 c2
   ·exact h3 q q0 (by omega)
 ·intro z hz
  cases z with
  | inl u=>exact Ok.some ⟨fun _=>hz,fun _=>by decide⟩
  | inr i=>exact Ok.some ⟨fun h=>by have:0<=i:=hz.1; omega,fun h=>absurd h hz.2⟩
def lev (q s w:Int):Prop:=(0<=s/\s<=15/\(w=0\/2<=w/\w<=16))/\0<=q/\(w=0->q=0)/\(0<w->q<2^w.toNat-1)
theorem gc:((List.range 17).all fun w=>wb .i64 (kshl .i64 1 (w:Int)-1)==2^w-1)=true:=by kernel_rfl
theorem Kc {w:Int} (h0:0<=w) (h1:w<=16):wb .i64 (kshl .i64 1 w-1)=2^w.toNat-1:=by
 have:=List.all_eq_true.1 gc w.toNat (List.mem_range.2 (by omega))
 rw [Int.toNat_of_nonneg h0] at this
 exact beq_iff_eq.1 this
theorem Yl (q s b:Int):Ok (fun r=>r.2=0↔lev q s b) (kQ 5000 q s b):=by
 refine Ok.bind (Q:=fun r=>r=true↔(0<=s/\s<=15/\(b=0\/2<=b/\b<=16))) (Ok.some ?_) ?_
 ·show (bif (bif decide (s>=0) then decide (s<=15) else false) then (bif (b==0) then true else (bif decide (b>=2) then decide (b<=16) else false)) else false)=true↔_
  by_cases a1:s>=0
  ·by_cases a2:s<=15
   ·rw [decide_eq_true a1,decide_eq_true a2]
    by_cases a3:b=0
    ·rw [show (b==0)=true by simpa using a3]; exact ⟨fun _=>⟨a1,a2,.inl a3⟩,fun _=>rfl⟩
    ·rw [show (b==0)=false by simpa using a3]
     by_cases a4:b>=2
     ·by_cases a5:b<=16
      ·rw [decide_eq_true a4,decide_eq_true a5]; exact ⟨fun _=>⟨a1,a2,.inr ⟨a4,a5⟩⟩,fun _=>rfl⟩
      ·rw [decide_eq_true a4,decide_eq_false a5]; exact ⟨fun h=>(by cases h),fun h=>by omega⟩
     ·rw [decide_eq_false a4]; exact ⟨fun h=>(by cases h),fun h=>by omega⟩
   ·rw [decide_eq_true a1,decide_eq_false a2]; exact ⟨fun h=>(by cases h),fun h=>by omega⟩
  ·rw [decide_eq_false a1]; exact ⟨fun h=>(by cases h),fun h=>by omega⟩
 intro r hr
 refine Ok.bind (Q:=fun x=>x=false↔lev q s b) ?_ ?_
 ·refine Ok.ite (fun c=>Ok.some ?_) (fun c=>?_)
  ·have c':r=false:=by simpa using c
   rw [c']
   refine ⟨fun h=>(by cases h),fun h=>?_⟩
   have:=hr.2 h.1
   rw [c'] at this; cases this
  ·have c:r=true:=by simpa using c
   have hs:=hr.1 c
   refine Ok.ite (fun c2=>Ok.some ?_) (fun c2=>Ok.ite (fun c3=>Ok.some ?_) (fun c3=>Ok.gd (fun e=>?_) (Ok.some ?_)))
   ·rw [c2]
    have:=dt c2
    exact ⟨fun h=>(by cases h),fun h=>by have:=h.2.1; omega⟩
   ·rw [c3]
    refine ⟨fun h=>(by cases h),fun h=>?_⟩
    by_cases e:b=0
    ·have:=h.2.2.1 e
     rw [this,e] at c3; cases c3
    ·rw [show (b==0)=false by simpa using e] at c3; cases c3
   ·omega
   ·have c2:=df c2
    have hk:=Kc (w:=b) (by omega) (by omega)
    have hq0:b=0->q=0:=fun e=>by
     rw [show (b==0)=true by simpa using e] at c3
     have c3:(q != 0)=false:=c3
     simpa using c3
    by_cases e:b>0
    ·rw [decide_eq_true e]
     show decide (q>=wb .i64 (kshl .i64 1 b-1))=false↔_
     rw [hk,decide_eq_false_iff_not]
     exact ⟨fun h=>⟨hs,by omega,hq0,fun _=>by omega⟩,fun h=>by have:=h.2.2.2 e; omega⟩
    ·rw [decide_eq_false e]
     exact ⟨fun _=>⟨hs,by omega,hq0,fun h=>absurd h e⟩,fun _=>rfl⟩
 intro x hx
 refine Ok.ite (fun c=>Ok.some ?_) (fun c=>?_)
 ·rw [c] at hx
  exact ⟨fun h=>(by cases h),fun h=>by have:=hx.2 h; cases this⟩
 have hl:=hx.1 c
 obtain ⟨⟨s0,s1,hb⟩,_⟩:=hl
 refine Ok.ite (fun _=>Ok.some ⟨fun _=>hx.1 c,fun _=>rfl⟩) (fun c2=>?_)
 have c2:b≠0:=by simpa using c2
 refine Ok.gd s0 (Ok.gd (by omega) (Ok.gd ?_ (Ok.some ⟨fun _=>hx.1 c,fun _=>rfl⟩)))
 rw [Kc (by omega) (by omega)]
 have h2:(2:Int)^2<=2^b.toNat:=Kk (by omega)
 have h4:(2:Int)^2=4:=rfl
 omega
def PV (p0 p1 p2 p3 p4 p5 p6 p7 p8 p9:Int) (J:List Int) (S:List (List Int)) (Q:List (List (List Int))) (sh:List (List Int)):Prop :=
  Jn p0 p1 p2 p3 p4 p5 p6 p7 p8 p9 J/\at' J (p3-1)=0/\Cd p4 p2 p3 Q/\∀ i,0<=i->i<p4->∀ c,0<=c->c<p2->∀ b,0<=b->b<p3->lev (at' (row (blk Q i) c) b) (at' (row S c) b) (at' (row sh c) b)
theorem Za (p0 p1 p2 p3 p4 p5 p6 p7 p8 p9:Int) (J:List Int) (S:List (List Int)) (Q:List (List (List Int))) (hm:yf p0 p1 p2 p3 p4 p5 p6 p7 p8 p9) (hJ:J.length<=4000) (hQ:Q.length<=4000) {sh:List (List Int)} (hf:Fit p0 p1 p2 p3 p4 p5 p6 p7 p8 p9 S) (hsh:Sh p2 p3 sh) (hs:zd 5000 p0 p1 p2 p3 p4 p5 p6 p7 p8 p9 S=some (sh,0)) :
  Ok (fun r=>(r.2=true↔PV p0 p1 p2 p3 p4 p5 p6 p7 p8 p9 J S Q sh)/\(r.2=true->r.1=sh)) (wr 5000 p0 p1 p2 p3 p4 p5 p6 p7 p8 p9 J S Q):=by
 have h2:p2=1\/p2=2:=hm.1.2.2.2.1
 have h3:p3=4\/p3=8:=hm.1.2.2.2.2.1
 have h4:=hm.1.2.2.2.2.2.1
 refine Ok.bind (Q:=fun x=>x=false↔(Jn p0 p1 p2 p3 p4 p5 p6 p7 p8 p9 J/\at' J (p3-1)=0)) ?_ ?_
 ·refine Ok.bind (Q9 p0 p1 p2 p3 p4 p5 p6 p7 p8 p9 J hJ) ?_
  intro r hr
  refine Ok.ite (fun c=>Ok.some ?_) (fun c=>?_)
  ·have c':r=false:=by simpa using c
   rw [c']
   refine ⟨fun h=>(by cases h),fun h=>?_⟩
   have:=hr.2 h.1
   rw [c'] at this; cases this
  ·have c:r=true:=by simpa using c
   have hj:=(hr.1 c).1
   have e:wb .i64 (p3-1)=p3-1:=zY (by omega) (by omega)
   refine Ok.gd ⟨by rw [e]; omega,by rw [e]; omega⟩ (Ok.bind (Q:=fun x=>x=(at' J (p3-1)==0)) (Ok.some (by rw [e])) (fun x hx=>Ok.some ?_))
   rw [show x=(at' J (p3-1)==0) from hx,c]
   show (!(at' J (p3-1)==0))=false↔_
   rw [Bool.not_eq_false',beq_iff_eq]
   exact ⟨fun h=>⟨hr.1 c,h⟩,fun h=>h.2⟩
 intro x hx
 refine Ok.ite (fun c=>Ok.some ⟨⟨fun h=>(by cases h),fun h=>?_⟩,fun h=>by cases h⟩) (fun c=>?_)
 ·have:=hx.2 ⟨h.1,h.2.1⟩
  rw [c] at this; cases this
 have hj:=hx.1 c
 refine Ok.bind (Ok.is hs) ?_
 rintro _ rfl
 refine Ok.ite (fun h=>by cases h) (fun _=>?_)
 refine Ok.bind (Ky p0 p1 p2 p3 p4 p5 p6 p7 p8 p9 Q hQ) ?_
 intro ok hok
 refine Ok.bind (Q:=fun r=>r=true↔(Cd p4 p2 p3 Q/\∀ i,0<=i->i<p4->∀ c,0<=c->c<p2->∀ b,0<=b->b<p3->lev (at' (row (blk Q i) c) b) (at' (row S c) b) (at' (row sh c) b))) ?_ (fun r hr=>Ok.some ⟨by rw [show (sh,r).2=r from rfl,hr]; exact ⟨fun h=>⟨hj.1,hj.2,h.1,h.2⟩,fun h=>⟨h.2.2.1,h.2.2.2⟩⟩,fun _=>rfl⟩)
 let RW:=fun (i:Int)=>∀ c,0<=c->c<p2->((row (blk Q i) c).length:Int)=p3/\∀ b,0<=b->b<p3->lev (at' (row (blk Q i) c) b) (at' (row S c) b) (at' (row sh c) b)
 refine (show Ok (fun r=>r=true↔(Qc p0 p1 p2 p3 p4 p5 p6 p7 p8 p9 Q/\∀ q,0<=q->q<p4->RW q)) _ from ?_).mono (fun r hr=>?_)
 ·unfold wr.l0
  refine wA (fun o i=>0<=i/\i<=(Q.length:Int)/\(o=true↔(Qc p0 p1 p2 p3 p4 p5 p6 p7 p8 p9 Q/\∀ q,0<=q->q<i->RW q))) (fun _ i=>((Q.length:Int)-i).toNat) _ ?_ 5000 _ _ ⟨by omega,by omega,⟨fun h=>⟨hok.1 h,fun q _ _=>by omega⟩,fun h=>hok.2 h.1⟩⟩ (by omega)
  rintro next o i ⟨g1,g2,g3⟩ ih
  refine Ok.ite (fun d=>?_) (fun d=>Ok.some ?_)
  ·have d:=dt d
   refine Ok.gd ⟨g1,d⟩ (Ok.bind (Q:=fun r=>r=true↔(o=true/\RW i)) ?_ ?_)
   ·refine (show Ok (fun r=>r=true↔(o=true/\∀ q,0<=q->q<p2->((row (blk Q i) q).length:Int)=p3/\∀ b,0<=b->b<p3->lev (at' (row (blk Q i) q) b) (at' (row S q) b) (at' (row sh q) b))) _ from ?_)
    unfold wr.l1
    refine wA (fun o' c=>0<=c/\c<=p2/\(o'=true↔(o=true/\∀ q,0<=q->q<c->((row (blk Q i) q).length:Int)=p3/\∀ b,0<=b->b<p3->lev (at' (row (blk Q i) q) b) (at' (row S q) b) (at' (row sh q) b)))) (fun _ c=>(p2-c).toNat) _ ?_ 5000 _ _ ⟨by omega,by omega,⟨fun h=>⟨h,fun q _ _=>by omega⟩,fun h=>h.1⟩⟩ (by omega)
    rintro next2 o' c ⟨f1,f2,f3⟩ ih2
    refine Ok.ite (fun d2=>?_) (fun d2=>Ok.some ?_)
    ·have hd:o'=true/\c<p2:=by
      cases e:o'
      ·have d2:(bif o' then decide (c<p2) else false)=true:=d2
       rw [e] at d2; cases d2
      ·have d2:(bif o' then decide (c<p2) else false)=true:=d2
       rw [e] at d2; exact ⟨rfl,dt d2⟩
     have ho:=(f3.1 hd.1).1
     have hb:=(g3.1 ho).1
     have hb4:=hb.1
     have hbl:=hb.2 i g1 (by omega)
     refine Ok.gd ⟨f1,by show c<((blk Q i).length:Int); omega⟩ (Ok.bind (Q:=fun r=>r=true↔(((row (blk Q i) c).length:Int)=p3/\∀ b,0<=b->b<p3->lev (at' (row (blk Q i) c) b) (at' (row S c) b) (at' (row sh c) b))) ?_ ?_)
     ·unfold wr.l2
      refine wA (fun o2 b=>0<=b/\b<=p3/\(o2=true↔(((row (blk Q i) c).length:Int)=p3/\∀ t,0<=t->t<b->lev (at' (row (blk Q i) c) t) (at' (row S c) t) (at' (row sh c) t)))) (fun _ b=>(p3-b).toNat) _ ?_ 5000 _ _ ⟨by omega,by omega,⟨fun h=>⟨by simpa using h,fun t _ _=>by omega⟩,fun h=>by simpa using h.1⟩⟩ (by omega)
      rintro next3 o2 b ⟨e1,e2,e3⟩ ih3
      refine Ok.ite (fun d3=>?_) (fun d3=>Ok.some ?_)
      ·have hd3:o2=true/\b<p3:=by
        cases e:o2
        ·have d3:(bif o2 then decide (b<p3) else false)=true:=d3
         rw [e] at d3; cases d3
        ·have d3:(bif o2 then decide (b<p3) else false)=true:=d3
         rw [e] at d3; exact ⟨rfl,dt d3⟩
       obtain ⟨hrl,hprev⟩:=e3.1 hd3.1
       have hS:=hf.2.2 c f1 hd.2
       have hS2:=hf.2.1
       have hsl:=hsh.2 c f1 hd.2
       have hs1:=hsh.1
       refine Ok.gd ⟨f1,by show c<((blk Q i).length:Int); omega⟩ (Ok.gd ⟨e1,by show b<((row (blk Q i) c).length:Int); omega⟩ (Ok.gd ⟨f1,by omega⟩ (Ok.gd ⟨e1,by show b<((row S c).length:Int); omega⟩ (Ok.gd ⟨f1,by omega⟩ (Ok.gd ⟨e1,by show b<((row sh c).length:Int); omega⟩ (Ok.bind (Yl _ _ _) ?_))))))
       rintro ⟨x1,x2⟩ hx2
       have hx2:x2=0↔lev (at' (row (blk Q i) c) b) (at' (row S c) b) (at' (row sh c) b):=hx2
       have e:=kw1 (x:=b) (by omega) (by omega)
       refine ih3 _ _ ⟨by omega,by omega,?_⟩ (by omega)
       rw [beq_iff_eq,e,hx2]
       refine ⟨fun h=>⟨hrl,fun t t0 t1=>?_⟩,fun h=>h.2 b e1 (by omega)⟩
       by_cases q:t=b
       ·rw [q]; exact h
       ·exact hprev t t0 (by omega)
      ·cases q:o2
       ·rw [q] at e3
        refine ⟨fun h=>(by cases h),fun h=>?_⟩
        have:=e3.2 ⟨h.1,fun t t0 t1=>h.2 t t0 (by omega)⟩
        cases this
       ·rw [q] at e3
        have d3:(bif o2 then decide (b<p3) else false)=false:=d3
        rw [q] at d3
        have:=df d3
        have hb3:b=p3:=by omega
        rw [hb3] at e3
        exact e3
     ·intro r hr
      have e:=kw1 (x:=c) (by omega) (by omega)
      refine ih2 _ _ ⟨by omega,by omega,?_⟩ (by omega)
      rw [hr,e]
      refine ⟨fun h=>⟨ho,fun q q0 q1=>?_⟩,fun h=>h.2 c f1 (by omega)⟩
      by_cases e2:q=c
      ·rw [e2]; exact h
      ·exact (f3.1 hd.1).2 q q0 (by omega)
    ·cases q:o'
     ·rw [q] at f3
      refine ⟨fun h=>(by cases h),fun h=>?_⟩
      have:=f3.2 ⟨h.1,fun t t0 t1=>h.2 t t0 (by omega)⟩
      cases this
     ·rw [q] at f3
      have d2:(bif o' then decide (c<p2) else false)=false:=d2
      rw [q] at d2
      have:=df d2
      have hc:c=p2:=by omega
      rw [hc] at f3
      exact f3
   ·intro r hr
    have e:=kw1 (x:=i) (by omega) (by omega)
    refine ih _ _ ⟨by omega,by omega,?_⟩ (by omega)
    rw [hr,g3,e]
    refine ⟨fun h=>⟨h.1.1,fun q q0 q1=>?_⟩,fun h=>⟨⟨h.1,fun q q0 q1=>h.2 q q0 (by omega)⟩,h.2 i g1 (by omega)⟩⟩
    by_cases e2:q=i
    ·rw [e2]; exact h.2
    ·exact h.1.2 q q0 (by omega)
  ·have hi:i=(Q.length:Int):=by have:=df d; omega
   rw [g3]
   refine ⟨fun h=>⟨h.1,fun q q0 q1=>h.2 q q0 (by have:=h.1.1; omega)⟩,fun h=>⟨h.1,fun q q0 q1=>h.2 q q0 (by have:=h.1.1; omega)⟩⟩
 ·rw [hr]
  refine ⟨fun h=>⟨⟨h.1.1,fun i i0 i1=>⟨h.1.2 i i0 i1,fun c c0 c1=>(h.2 i i0 i1 c c0 c1).1⟩⟩,fun i i0 i1 c c0 c1 b b0 b1=>(h.2 i i0 i1 c c0 c1).2 b b0 b1⟩,fun h=>⟨⟨h.1.1,fun i i0 i1=>(h.1.2 i i0 i1).1⟩,fun i i0 i1 c c0 c1=>⟨(h.1.2 i i0 i1).2 c c0 c1,fun b b0 b1=>h.2 i i0 i1 c c0 c1 b b0 b1⟩⟩⟩
end Go.Fo
