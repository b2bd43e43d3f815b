/- The planes of parameters: the program. -/
import Derived.Test.YtiihmaaobmpababGreatSaXa
namespace Go.Fo
set_option maxRecDepth 6000
def swf (J:List Int) (P:List (List (List Int))) (c i b:Int):Int:=if at' J b=1 then (if c=0 then sumf (blk P 0) (blk P 1) i b else diff (blk P 0) (blk P 1) i b) else celf (blk P c) i b
def lf (S:List (List Int)) (Q:List (List (List Int))) (sh:List (List Int)) (c i b:Int):Int:=lvv (at' (row (blk Q i) c) b) (at' (row S c) b) (at' (row sh c) b)
def pnf (J:List Int) (S:List (List Int)) (Q:List (List (List Int))) (sh:List (List Int)) (c i b:Int):Int:=if at' J b=1 then (if c=0 then kE (lf S Q sh 0 i b+lf S Q sh 1 i b) else kE (lf S Q sh 0 i b-lf S Q sh 1 i b)) else lf S Q sh c i b
theorem ZJ {J:List Int} (hJ:J.length<=4000):Ok (fun r=>r=true↔∃ i,0<=i/\i<(J.length:Int)/\at' J i=1) (z5 5000 J 1):=by
 refine Ok.bind (Q:=fun r=>r>=0↔∃ i,0<=i/\i<(J.length:Int)/\at' J i=1) ?_ (fun r hr=>Ok.some (by rw [<-hr,decide_eq_true_iff]))
 refine Ok.bind (Q:=fun z=>match z with | .inl _=>¬ ∃ i,0<=i/\i<(J.length:Int)/\at' J i=1 | .inr x=>0<=x/\∃ i,0<=i/\i<(J.length:Int)/\at' J i=1) ?_ ?_
 ·unfold wS.l0
  refine w5 (fun i=>0<=i/\i<=(J.length:Int)/\∀ q,0<=q->q<i->at' J q≠1) (fun i=>((J.length:Int)-i).toNat) _ ?_ 5000 _ ⟨by omega,by omega,fun q _ _=>by omega⟩ (by omega)
  rintro next i ⟨g1,g2,g3⟩ ih
  refine Ok.ite (fun d=>?_) (fun d=>Ok.some (fun ⟨q,q0,q1,hq⟩=>g3 q q0 (by have:=df d; omega) hq))
  have d:=dt d
  refine Ok.gd ⟨g1,d⟩ (Ok.ite (fun c=>Ok.some ⟨g1,i,g1,d,?_⟩) (fun c=>?_))
  ·have c:1=at' J i:=by simpa using c
   exact c.symm
  ·have c:¬ 1=at' J i:=by simpa using c
   have e:=kw1 (x:=i) (by omega) (by omega)
   refine ih _ ⟨by omega,by omega,fun q q0 q1=>?_⟩ (by omega)
   by_cases e2:q=i
   ·rw [e2]; exact fun h=>c h.symm
   ·exact g3 q q0 (by omega)
 ·intro z hz
  cases z with
  | inl u=>exact Ok.some ⟨fun h=>by omega,fun h=>absurd h hz⟩
  | inr i=>exact Ok.some ⟨fun _=>hz.2,fun _=>hz.1⟩
theorem UZ (p0 p1 p2 p3 p4 p5 p6 p7 p8 p9:Int) (hm:yf p0 p1 p2 p3 p4 p5 p6 p7 p8 p9) {P:List (List (List Int))} (hP:Cd p2 p4 p3 P) (hg:∀ c,0<=c->c<p2->Rgs p4 p3 (blk P c)) {J:List Int} (hJ:Jn p0 p1 p2 p3 p4 p5 p6 p7 p8 p9 J) (S:List (List Int)) (Q:List (List (List Int))):Ok (fun r=>(r.length:Int)=p2/\∀ c,0<=c->c<p2->Pw p4 p3 (blk r c) (swf J P c)) (qK 5000 P J S Q):=by
 have h3:p3=4\/p3=8:=hm.1.2.2.2.2.1
 have h4:p4=4\/p4=8\/p4=12\/p4=16:=hm.1.2.2.2.2.2.1
 have h6:p6=0\/(p6=1/\p2=2):=hm.1.2.2.2.2.2.2.2.1
 have hJ1:=hJ.1
 have hP1:=hP.1
 refine Ok.bind (ZJ (by omega)) ?_
 intro r hr
 refine Ok.ite (fun c=>Ok.some ⟨hP1,fun q q0 q1=>(Pw.self (hP.2 q q0 q1)).cg (fun i b i0 i1 b0 b1=>?_)⟩) (fun c=>?_)
 ·have hn:¬ ∃ i,0<=i/\i<(J.length:Int)/\at' J i=1:=fun hx=>by rw [hr.2 hx] at c; cases c
  unfold swf; rw [if_neg (fun hv=>hn ⟨b,b0,by omega,hv⟩)]
 ·have hx:=hr.1 (by cases r; cases c; rfl)
  clear hr
  obtain ⟨b,b0,b1,hb⟩:=hx
  have h2:p2=2:=by
   rcases hJ.2 b b0 (by omega) with e | e<;>omega
  have q0:=hP.2 0 (by omega) (by omega)
  have q1:=hP.2 1 (by omega) (by omega)
  refine Ok.gd (by omega) (Ok.gd (by omega) (Ok.bind (ut (M:=p4) (B:=p3) q0 q1 (by omega) (by omega) (by omega) (by omega) (hg 0 (by omega) (by omega)) (hg 1 (by omega) (by omega))) ?_))
  rintro ⟨x,y,e⟩ ⟨hx,hy,_⟩
  refine Ok.gd (by omega) (Ok.bind (XW (M:=p4) (B:=p3) q0 (by omega) (by omega) (by omega) (by omega)) ?_)
  intro X hX
  rw [show X=blk P 0 from hX]
  refine Ok.gd (by omega) (Ok.bind (XW (M:=p4) (B:=p3) q1 (by omega) (by omega) (by omega) (by omega)) ?_)
  intro Y hY
  rw [show Y=blk P 1 from hY]
  refine Ok.bind (Q:=fun r=>Pw p4 p3 r.1 (swf J P 0)/\Pw p4 p3 r.2 (swf J P 1)) (Ok.bind (Q:=fun r=>Pw p4 p3 r.1 (swf J P 0)/\Pw p4 p3 r.2 (swf J P 1)) ?_ (fun r hr=>Ok.some hr)) ?_
  ·unfold z4.l0
   refine ql (fun b X Y=>0<=b/\b<=p3/\Pw p4 p3 X (fun i k=>if k<b then swf J P 0 i k else celf (blk P 0) i k)/\Pw p4 p3 Y (fun i k=>if k<b then swf J P 1 i k else celf (blk P 1) i k)) (fun b _ _=>(p3-b).toNat) _ ?_ 5000 _ _ _ ⟨by omega,by omega,(Pw.self q0).cg (fun i k _ _ k0 _=>by rw [if_neg (by omega)]),(Pw.self q1).cg (fun i k _ _ k0 _=>by rw [if_neg (by omega)])⟩ (by omega)
   rintro next b X Y ⟨g1,g2,g3,g4⟩ ih
   refine Ok.ite (fun d=>?_) (fun d=>Ok.some ⟨g3.cg (fun i k _ _ _ k1=>by have:=df d; rw [if_pos (by omega)]),g4.cg (fun i k _ _ _ k1=>by have:=df d; rw [if_pos (by omega)])⟩)
   have d:=dt d
   refine Ok.bind (Q:=fun r=>Pw p4 p3 r.1 (fun i k=>if k<b+1 then swf J P 0 i k else celf (blk P 0) i k)/\Pw p4 p3 r.2 (fun i k=>if k<b+1 then swf J P 1 i k else celf (blk P 1) i k)) (Ok.gd ⟨g1,by omega⟩ (Ok.ite (fun c=>?_) (fun c=>Ok.some ?_))) ?_
   ·have c:at' J b=1:=by simpa using c
    refine Ok.bind (J7 hx hy g3 g4 (by omega) (by omega) g1 (by omega)) (fun r hr=>Ok.some ⟨hr.1.cg (fun i k _ _ k0 k1=>?_),hr.2.cg (fun i k _ _ k0 k1=>?_)⟩)
    ·by_cases e2:k=b
     ·rw [if_pos e2,if_pos (by omega),e2]; unfold swf; rw [if_pos c,if_pos rfl]; rfl
     ·rw [if_neg e2]
      by_cases e3:k<b
      ·rw [if_pos e3,if_pos (by omega)]
      ·rw [if_neg e3,if_neg (by omega)]
    ·by_cases e2:k=b
     ·rw [if_pos e2,if_pos (by omega),e2]; unfold swf; rw [if_pos c,if_neg (by decide)]; rfl
     ·rw [if_neg e2]
      by_cases e3:k<b
      ·rw [if_pos e3,if_pos (by omega)]
      ·rw [if_neg e3,if_neg (by omega)]
   ·have c:¬ at' J b=1:=by simpa using c
    refine ⟨g3.cg (fun i k _ _ k0 k1=>?_),g4.cg (fun i k _ _ k0 k1=>?_)⟩
    ·by_cases e2:k=b
     ·rw [if_neg (by omega),if_pos (by omega),e2]; unfold swf; rw [if_neg c]
     ·by_cases e3:k<b
      ·rw [if_pos e3,if_pos (by omega)]
      ·rw [if_neg e3,if_neg (by omega)]
    ·by_cases e2:k=b
     ·rw [if_neg (by omega),if_pos (by omega),e2]; unfold swf; rw [if_neg c]
     ·by_cases e3:k<b
      ·rw [if_pos e3,if_pos (by omega)]
      ·rw [if_neg e3,if_neg (by omega)]
   ·rintro ⟨X',Y'⟩ ⟨e1,e2⟩
    have e:=kw1 (x:=b) (by omega) (by omega)
    dsimp only
    rw [e]
    exact ih _ _ _ ⟨by omega,by omega,e1,e2⟩ (by omega)
  ·rintro ⟨X',Y'⟩ ⟨e1,e2⟩
   refine Ok.some ⟨by show (2:Int)=_; omega,fun c c0 c1=>?_⟩
   have:c=0\/c=1:=by omega
   rcases this with rfl | rfl
   ·exact e1
   ·exact e2
theorem Uc (p0 p1 p2 p3 p4 p5 p6 p7 p8 p9:Int) (hm:yf p0 p1 p2 p3 p4 p5 p6 p7 p8 p9) {J:List Int} {S:List (List Int)} {Q:List (List (List Int))} {sh:List (List Int)} (hf:Fit p0 p1 p2 p3 p4 p5 p6 p7 p8 p9 S) (hsh:Sh p2 p3 sh) (hv:PV p0 p1 p2 p3 p4 p5 p6 p7 p8 p9 J S Q sh) (hs:wr 5000 p0 p1 p2 p3 p4 p5 p6 p7 p8 p9 J S Q=some (sh,true)):Ok (fun r=>r.2=0/\(r.1.length:Int)=p2/\∀ c,0<=c->c<p2->Pw p4 p3 (blk r.1 c) (pnf J S Q sh c)) (w9 5000 p0 p1 p2 p3 p4 p5 p6 p7 p8 p9 J S Q):=by
 obtain ⟨hj,_,hq,hlv⟩:=hv
 have h2:=(fit hf).2.1
 have h3:=(fit hf).2.2.1
 have h4:p4=4\/p4=8\/p4=12\/p4=16:=hm.1.2.2.2.2.2.1
 have hQ:=hq.1
 have hS1:=hf.2.1
 have hs1:=hsh.1
 refine Ok.bind (Ok.is ((Wu p0 p1 p2 p3 p4 p5 p6 p7 p8 p9).trans (by rw [if_pos hm]))) ?_
 rintro _ rfl
 refine Ok.ite (fun h=>by cases h) (fun _=>Ok.bind (Ok.is hs) ?_)
 rintro _ rfl
 refine Ok.ite (fun h=>by cases h) (fun _=>Ok.gd ⟨by omega,by omega,by omega⟩ ?_)
 have hrep:((List.replicate (Int.toNat p2) ([]:List (List Int))).length:Int)=p2:=by simp; omega
 rw [hrep]
 refine Ok.bind (Q:=fun P=>(P.length:Int)=p2/\∀ q,0<=q->q<p2->Pw p4 p3 (blk P q) (lf S Q sh q)) ?_ ?_
 ·unfold w9.l0
  refine wA (fun c P=>0<=c/\c<=p2/\(P.length:Int)=p2/\(∀ q,0<=q->q<c->Pw p4 p3 (blk P q) (lf S Q sh q))/\∀ q,c<=q->blk P q=[]) (fun c _=>(p2-c).toNat) _ ?_ 5000 _ _ ⟨by omega,by omega,hrep,fun q _ _=>by omega,fun q q0=>?_⟩ (by omega)
  ·rintro next c P ⟨g1,g2,g3,g4,g5⟩ ih
   refine Ok.ite (fun d=>?_) (fun d=>Ok.some ⟨g3,fun q q0 q1=>g4 q q0 (by have:=df d; omega)⟩)
   have d:=dt d
   refine Ok.bind (Q:=fun P=>(P.length:Int)=p2/\(∀ q,0<=q->q<c+1->Pw p4 p3 (blk P q) (lf S Q sh q))/\∀ q,c+1<=q->blk P q=[]) ?_ ?_
   ·unfold w9.l1
    refine wA (fun i P=>0<=i/\i<=p4/\(P.length:Int)=p2/\(∀ q,0<=q->q<c->Pw p4 p3 (blk P q) (lf S Q sh q))/\Pw i p3 (blk P c) (lf S Q sh c)/\∀ q,c+1<=q->blk P q=[]) (fun i _=>(p4-i).toNat) _ ?_ 5000 _ _ ⟨by omega,by omega,g3,g4,by rw [g5 c (by omega)]; exact Pw.nil _ _,fun q hq=>g5 q (by omega)⟩ (by omega)
    rintro next2 i P ⟨f1,f2,f3,f4,f5,f6⟩ ih2
    refine Ok.ite (fun d2=>?_) (fun d2=>?_)
    ·have d2:=dt d2
     have hb:=hq.2 i f1 (by omega)
     have hb1:=hb.1
     have hr:=hb.2 c g1 d
     have hS:=(hf.2.2 c g1 d).1
     have hsr:=hsh.2 c g1 d
     refine Ok.gd ⟨f1,d2⟩ (Ok.gd ⟨g1,by show c<((blk Q i).length:Int); omega⟩ (Ok.bind (Q:=fun l=>Pv p3 l (lf S Q sh c i)) ?_ ?_))
     ·unfold w9.l2
      refine wA (fun b l=>0<=b/\b<=p3/\Pv b l (lf S Q sh c i)) (fun b _=>(p3-b).toNat) _ ?_ 5000 _ _ ⟨by omega,by omega,Pv.nil _⟩ (by omega)
      rintro next3 b l ⟨e1,e2,e3⟩ ih3
      have e31:=e3.1
      refine Ok.ite (fun d3=>?_) (fun d3=>Ok.some ?_)
      ·have d3:b<((row (blk Q i) c).length:Int):=dt d3
       refine Ok.gd ⟨e1,d3⟩ (Ok.gd ⟨g1,by omega⟩ (Ok.gd ⟨e1,by show b<((row S c).length:Int); omega⟩ (Ok.gd ⟨g1,by omega⟩ (Ok.gd ⟨e1,by show b<((row sh c).length:Int); omega⟩ (Ok.bind (ux (hlv i f1 (by omega) c g1 d b e1 (by omega))) ?_)))))
       rintro ⟨v,w⟩ hvw
       refine Ok.gd (by show ((l.length:Int)+1)*4<=_; omega) ?_
       have e:=kw1 (x:=b) (by omega) (by omega)
       dsimp only
       rw [e]
       exact ih3 _ _ ⟨by omega,by omega,e3.snoc hvw⟩ (by omega)
      ·have d3:¬ b<((row (blk Q i) c).length:Int):=df d3
       rw [show b=p3 by omega] at e3; exact e3
     ·intro l hl
      have f51:((P.getD c.toNat []).length:Int)=i:=f5.1
      refine Ok.gd ⟨g1,by omega,by omega⟩ (Ok.gd ⟨by show (((P.getD c.toNat []).length:Int)+1)*24<=_; omega,g1,by omega,by omega⟩ ?_)
      have e:wb .i64 (i+1)=i+1:=kw1 (by omega) (by omega)
      dsimp only
      rw [e]
      refine ih2 _ _ ⟨by omega,by omega,by rw [List.length_set]; exact f3,fun q q0 q1=>?_,?_,fun q hq=>?_⟩ (by omega)
      ·rw [yN g1 (by omega) q0,if_neg (by omega)]; exact f4 q q0 q1
      ·rw [yN g1 (by omega) g1,if_pos rfl]
       exact f5.snoc hl
      ·rw [yN g1 (by omega) (by omega),if_neg (by omega)]; exact f6 q hq
    ·have:i=p4:=by have:=df d2; omega
     subst this
     refine Ok.some ⟨f3,fun q q0 q1=>?_,f6⟩
     by_cases e:q=c
     ·rw [e]; exact f5
     ·exact f4 q q0 (by omega)
   ·rintro P' ⟨e1,e2,e3⟩
    have e:wb .i64 (c+1)=c+1:=kw1 (by omega) (by omega)
    dsimp only
    rw [e]
    exact ih _ _ ⟨by omega,by omega,e1,e2,e3⟩ (by omega)
  ·show (List.replicate (Int.toNat p2) ([]:List (List Int))).getD q.toNat []=[]
   rw [List.getD_eq_getElem?_getD,List.getElem?_replicate]; split<;>rfl
 ·rintro P ⟨hP1,hP⟩
  have hg:∀ c,0<=c->c<p2->Rgs p4 p3 (blk P c):=fun c c0 c1 i b i0 i1 b0 b1=>by
   rw [((hP c c0 c1).2 i i0 i1).2 b b0 b1]
   exact Y2 (hlv i i0 i1 c c0 c1 b b0 b1)
  refine Ok.bind (UZ p0 p1 p2 p3 p4 p5 p6 p7 p8 p9 hm ⟨hP1,fun c c0 c1=>(hP c c0 c1).sh⟩ hg hj S Q) (fun r hr=>Ok.some ⟨rfl,hr.1,fun c c0 c1=>(hr.2 c c0 c1).cg (fun i b i0 i1 b0 b1=>?_)⟩)
  have hc:∀ q,0<=q->q<p2->celf (blk P q) i b=lf S Q sh q i b:=fun q q0 q1=>((hP q q0 q1).2 i i0 i1).2 b b0 b1
  unfold swf pnf
  by_cases e:at' J b=1
  ·have h6:p6=0\/(p6=1/\p2=2):=hm.1.2.2.2.2.2.2.2.1
   have e2:p2=2:=by rcases hj.2 b b0 b1 with e' | e'<;>omega
   have h0:=hc 0 (by omega) (by omega)
   have h1:=hc 1 (by omega) (by omega)
   rw [if_pos e,if_pos e]
   show (if c=0 then kE (celf (blk P 0) i b+celf (blk P 1) i b) else kE (celf (blk P 0) i b-celf (blk P 1) i b))=_
   rw [h0,h1]
  ·rw [if_neg e,if_neg e]; exact hc c c0 c1
end Go.Fo
