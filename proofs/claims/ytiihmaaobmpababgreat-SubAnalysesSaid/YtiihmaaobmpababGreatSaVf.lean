/- The parameters of planes: the document tells the same. -/
import Derived.Test.YtiihmaaobmpababGreatSaVe
import Derived.Test.YtiihmaaobmpababGreatSaUd
namespace Go.Fo
set_option maxRecDepth 6000
theorem U1 {X:List (List (List Int))} {r:List (List Int)} {q:Int} (hq:0<=q) (hX:q<=(X.length:Int)):blk (X++[r]) q=if q=(X.length:Int) then r else blk X q:=by
 show (X++[r]).getD q.toNat []=if q=(X.length:Int) then r else X.getD q.toNat []
 rw [List.getD_eq_getElem?_getD,List.getD_eq_getElem?_getD]
 by_cases e:q=(X.length:Int)
 ·rw [if_pos e,List.getElem?_append_right (by omega),show q.toNat-X.length=0 by omega]; rfl
 ·rw [if_neg e,List.getElem?_append_left (by omega)]
def P3 (M:Int) (X:List (List (List Int))) (f:Int->List (List Int)->Prop):Prop:=(X.length:Int)=M/\∀ i,0<=i->i<M->f i (blk X i)
theorem P3.nil (f:Int->List (List Int)->Prop):P3 0 [] f:=⟨rfl,fun i _ _=>by omega⟩
theorem P3.snoc {M:Int} {X:List (List (List Int))} {r:List (List Int)} {f:Int->List (List Int)->Prop} (h:P3 M X f) (hr:f M r):P3 (M+1) (X++[r]) f:=by
 have h1:=h.1
 refine ⟨by rw [List.length_append]; show (((X.length+1:Nat)):Int)=_; omega,fun q q0 q1=>?_⟩
 rw [U1 q0 (by omega)]
 by_cases e:q=(X.length:Int)
 ·rw [if_pos e,e,h1]; exact hr
 ·rw [if_neg e]; exact h.2 q q0 (by omega)
theorem Qx.eq {p2 p3 p4 p6:Int} {P Q Q':List (List (List Int))} {w:Int->Int->Int} (h:Qx p2 p3 p4 p6 P w Q) (h':Qx p2 p3 p4 p6 P w Q'):Q=Q':=by
 have a:=h.1; have a':=h'.1
 have e:∀ (X:List (List (List Int))) {i:Nat} (hi:i<X.length),blk X (i:Int)=X[i]:=fun X i hi=>by
  show X.getD i []=_
  rw [List.getD_eq_getElem?_getD,List.getElem?_eq_getElem hi]; rfl
 refine List.ext_getElem (by omega) (fun i i0 i1=>?_)
 rw [<-e Q i0,<-e Q' i1]
 exact (h.2 i (by omega) (by omega)).eq (h'.2 i (by omega) (by omega))
theorem Jb (p0 p1 p2 p3 p4 p5 p6 p7 p8 p9:Int) {P:List (List (List Int))} (h:Pl p0 p1 p2 p3 p4 p5 p6 p7 p8 p9 P) {J:List Int} {S:List (List Int)} {Q:List (List (List Int))} (hJ:Pv p3 J (jvf P p3 p4 p6)) (hS:Pw p2 p3 S (fun c b=>scf (atf P p3 p4 p6 c) p4 b)) {C B:Nat} {z:Int->Int} (hz:Shr p0 p1 p2 p3 p4 p5 p6 p7 p8 p9 S C B z) (hsr:wh 5000 p0 p1 p2 p3 p4 p5 p6 p7 p8 p9 S=some (tabv (B*C) z)) (hQ:Qx p2 p3 p4 p6 P (celf (rw_ C B z)) Q) :
  Ok (fun r=>r=(J,S,Q)) (wg 5000 p0 p1 p2 p3 p4 p5 p6 p7 p8 p9 P):=by
 have hm:=h.m
 have h2:p2=1\/p2=2:=hm.1.2.2.2.1
 have h3:p3=4\/p3=8:=hm.1.2.2.2.2.1
 have h4:p4=4\/p4=8\/p4=12\/p4=16:=hm.1.2.2.2.2.2.1
 have h6:p6=0\/(p6=1/\p2=2):=hm.1.2.2.2.2.2.2.2.1
 have hP1:=h.c.1
 have hJ1:=hJ.1
 have hS1:=hS.1
 have hrep:((List.replicate (Int.toNat p3) (0:Int)).length:Int)=p3:=by simp; omega
 refine Ok.gd ⟨by omega,by omega,by omega⟩ (Ok.bind (Q:=fun r=>r.2.2=J/\(p6=1->Pw p4 p3 r.1 (midf (blk P 0) (blk P 1))/\Pw p4 p3 r.2.1 (sidf (blk P 0) (blk P 1)))) (Ok.ite (fun c=>?_) (fun c=>Ok.some ⟨?_,fun h0=>?_⟩)) ?_)
 ·have c:p6=1:=by simpa using c
  have e2:p2=2:=by omega
  have q0:=h.c.2 0 (by omega) (by omega)
  have q1:=h.c.2 1 (by omega) (by omega)
  refine Ok.gd (by omega) (Ok.gd (by omega) (Ok.bind (XC (M:=p4) (B:=p3) q0 q1 (by omega) (by omega) (by omega) (h.g 0 (by omega) (by omega)) (h.g 1 (by omega) (by omega))) ?_))
  rintro ⟨x,y⟩ ⟨hx,hy⟩
  refine Ok.gd (by omega) (Ok.gd (by omega) (Ok.bind (YT (M:=p4) (B:=p3) q0 q1 (by omega) (by omega) (by omega) (by omega) (h.g 0 (by omega) (by omega)) (h.g 1 (by omega) (by omega))) ?_))
  intro s hs
  have hs:Pb p3 s (jnf (blk P 0) (blk P 1) p4 p3):=hs
  have hs1:(s.length:Int)=p3:=hs.1
  refine Ok.bind (Q:=fun J'=>J'=J) ?_ (fun r hr=>Ok.some ⟨hr,fun _=>⟨hx,hy⟩⟩)
  unfold wg.l9
  refine wA (fun i y=>0<=i/\i<=p3/\(y.length:Int)=p3/\∀ q,0<=q->q<p3->at' y q=if q<i then jvf P p3 p4 p6 q else 0) (fun i _=>(p3-i).toNat) _ ?_ 5000 _ _ ⟨by omega,by omega,hrep,fun q _ _=>by rw [if_neg (by omega)]; exact yO _ _⟩ (by omega)
  rintro next i y ⟨g1,g2,g3,g4⟩ ih
  refine Ok.ite (fun d=>?_) (fun d=>Ok.some ?_)
  ·have d:=dt d
   refine Ok.bind (Xq hs c (fun b _ _=>by unfold jvf; by_cases e:jnf (blk P 0) (blk P 1) p4 p3 b=true<;>simp [e,c]) g1 (by omega) g3 g4) ?_
   rintro y' ⟨k1,k2⟩
   have e:=kw1 (x:=i) (by omega) (by omega)
   dsimp only
   rw [e]
   exact ih _ _ ⟨by omega,by omega,k1,k2⟩ (by omega)
  ·have d:=df d
   exact Pv.eq (g:=jvf P p3 p4 p6) ⟨g3,fun q q0 q1=>by rw [g4 q q0 q1,if_pos (by omega)]⟩ hJ
 ·have c:¬ p6=1:=by simpa using c
  refine Pv.eq (g:=jvf P p3 p4 p6) ⟨hrep,fun k _ _=>?_⟩ hJ
  rw [yO]
  unfold jvf; rw [if_neg (fun h=>c h.1)]
 ·have c:¬ p6=1:=by simpa using c
  exact absurd h0 c
 rintro ⟨x,y,J'⟩ ⟨hj,hxy⟩
 have hj:J'=J:=hj
 subst hj
 refine Ok.bind (Q:=fun u=>P3 p2 u (fun c X=>Pw p4 p3 X (atf P p3 p4 p6 c))) ?_ ?_
 ·unfold wg.l6
  refine wA (fun c u=>0<=c/\c<=p2/\P3 c u (fun c X=>Pw p4 p3 X (atf P p3 p4 p6 c))) (fun c _=>(p2-c).toNat) _ ?_ 5000 _ _ ⟨by omega,by omega,P3.nil _⟩ (by omega)
  rintro next c u ⟨g1,g2,g3⟩ ih
  have gl:=g3.1
  refine Ok.ite (fun d=>?_) (fun d=>Ok.some (by have:=df d; rw [show c=p2 by omega] at g3; exact g3))
  have d:=dt d
  have hb:=h.c.2 c g1 (by omega)
  have hb1:=hb.1
  refine Ok.bind (Q:=fun X=>Pw p4 p3 X (atf P p3 p4 p6 c)) ?_ ?_
  ·unfold wg.l7
   refine wA (fun i X=>0<=i/\i<=p4/\Pw i p3 X (atf P p3 p4 p6 c)) (fun i _=>(p4-i).toNat) _ ?_ 5000 _ _ ⟨by omega,by omega,Pw.nil _ _⟩ (by omega)
   rintro next2 i X ⟨f1,f2,f3⟩ ih2
   have fl:=f3.1
   refine Ok.ite (fun d2=>?_) (fun d2=>Ok.some (by have:=df d2; rw [show i=p4 by omega] at f3; exact f3))
   have d2:=dt d2
   have hr:=hb.2 i f1 (by omega)
   refine Ok.bind (Q:=fun l=>Pv p3 l (atf P p3 p4 p6 c i)) ?_ ?_
   ·unfold wg.l8
    refine wA (fun b l=>0<=b/\b<=p3/\Pv b l (atf P p3 p4 p6 c i)) (fun b _=>(p3-b).toNat) _ ?_ 5000 _ _ ⟨by omega,by omega,Pv.nil _⟩ (by omega)
    rintro next3 b l ⟨e1,e2,e3⟩ ih3
    have el:=e3.1
    refine Ok.ite (fun d3=>?_) (fun d3=>Ok.some (by have:=df d3; rw [show b=p3 by omega] at e3; exact e3))
    have d3:=dt d3
    have ej:=hJ.2 b e1 (by omega)
    have hrl:((Kd.nth (.slice (.int .i32)) (Kd.nth (.slice (.slice (.int .i32))) P (Int.toNat c)) (Int.toNat i)).length:Int)=p3:=hr
    refine Ok.gd ⟨g1,by omega,f1,by show i<((blk P c).length:Int); omega,e1,by omega⟩ (Ok.gd ⟨e1,by omega,by omega⟩ ?_)
    have e:=kw1 (x:=b) (by omega) (by omega)
    refine Ok.bind (Q:=fun v=>v=if at' J' b=1/\c=0 then midf (blk P 0) (blk P 1) i b else celf (blk P c) i b) (Ok.ite (fun t=>?_) (fun t=>Ok.some ?_)) ?_
    ·have t:at' J' b=1/\c=0:=by
      have t:(bif (at' J' b==1) then (c==0) else false)=true:=t
      cases k:(at' J' b==1)
      ·rw [k] at t; cases t
      ·rw [k] at t; exact ⟨by simpa using k,by simpa using t⟩
     have hp6:p6=1:=by rw [ej] at t; rcases Qd P p3 p4 p6 b with q | q<;>omega
     obtain ⟨hx,hy⟩:=hxy hp6
     have hxl:=(hx.2 i f1 (by omega)).1
     have hx1:(x.length:Int)=p4:=hx.1
     have hxr:((Kd.nth (.slice (.int .i32)) x (Int.toNat i)).length:Int)=p3:=hxl
     refine Ok.gd ⟨f1,by omega,e1,by omega⟩ (Ok.some ?_)
     rw [if_pos t]
     exact (hx.2 i f1 (by omega)).2 b e1 (by omega)
    ·have t:¬ (at' J' b=1/\c=0):=fun k=>by
      have t:(bif (at' J' b==1) then (c==0) else false)=false:=t
      rw [k.1,k.2] at t; cases t
     rw [if_neg t]; rfl
    ·intro v hv
     refine Ok.gd ⟨e1,by omega,by omega⟩ (Ok.bind (Q:=fun v=>v=atf P p3 p4 p6 c i b) (Ok.ite (fun t=>?_) (fun t=>Ok.some ?_)) ?_)
     ·have t:at' J' b=1/\c=1:=by
       have t:(bif (at' J' b==1) then (c==1) else false)=true:=t
       cases k:(at' J' b==1)
       ·rw [k] at t; cases t
       ·rw [k] at t; exact ⟨by simpa using k,by simpa using t⟩
      have hp6:p6=1:=by rw [ej] at t; rcases Qd P p3 p4 p6 b with q | q<;>omega
      obtain ⟨hx,hy⟩:=hxy hp6
      have hyl:=(hy.2 i f1 (by omega)).1
      have hy1:(y.length:Int)=p4:=hy.1
      have hyr:((Kd.nth (.slice (.int .i32)) y (Int.toNat i)).length:Int)=p3:=hyl
      refine Ok.gd ⟨f1,by omega,e1,by omega⟩ (Ok.some ?_)
      have e5:=(hy.2 i f1 (by omega)).2 b e1 (by omega)
      have e6:atf P p3 p4 p6 c i b=sidf (blk P 0) (blk P 1) i b:=by
       unfold atf; rw [<-ej,if_pos t.1,if_neg (by omega)]
      rw [e6]; exact e5
     ·have t:¬ (at' J' b=1/\c=1):=fun k=>by
       have t:(bif (at' J' b==1) then (c==1) else false)=false:=t
       rw [k.1,k.2] at t; cases t
      show v=_
      rw [show v=_ from hv]
      unfold atf
      rw [<-ej]
      by_cases c1:at' J' b=1
      ·have:c=0:=by omega
       rw [if_pos ⟨c1,this⟩,if_pos c1,if_pos this]
      ·rw [if_neg (fun k=>c1 k.1),if_neg c1]
     ·intro v' hv'
      refine Ok.gd (by show ((l.length:Int)+1)*4<=_; omega) ?_
      dsimp only
      rw [e]
      exact ih3 _ _ ⟨by omega,by omega,e3.snoc hv'⟩ (by omega)
   ·intro l hl
    have e:=kw1 (x:=i) (by omega) (by omega)
    refine Ok.gd (by show ((X.length:Int)+1)*24<=_; omega) ?_
    dsimp only
    rw [e]
    exact ih2 _ _ ⟨by omega,by omega,f3.snoc hl⟩ (by omega)
  ·intro X hX
   have e:=kw1 (x:=c) (by omega) (by omega)
   refine Ok.gd (by show ((u.length:Int)+1)*24<=_; omega) ?_
   dsimp only
   rw [e]
   exact ih _ _ ⟨by omega,by omega,g3.snoc hX⟩ (by omega)
 ·intro u hu
  have hu1:(u.length:Int)=p2:=hu.1
  refine Ok.bind (Q:=fun S'=>S'=S) ?_ ?_
  ·unfold wg.l3
   refine wA (fun c X=>0<=c/\c<=p2/\Pw c p3 X (fun c b=>scf (atf P p3 p4 p6 c) p4 b)) (fun c _=>(p2-c).toNat) _ ?_ 5000 _ _ ⟨by omega,by omega,Pw.nil _ _⟩ (by omega)
   rintro next c X ⟨g1,g2,g3⟩ ih
   have gl:=g3.1
   refine Ok.ite (fun d=>?_) (fun d=>Ok.some (by have:=df d; rw [show c=p2 by omega] at g3; exact g3.eq hS))
   have d:=dt d
   have hb:Pw p4 p3 (blk u c) (atf P p3 p4 p6 c):=hu.2 c g1 (by omega)
   have hb1:((Kd.nth (.slice (.slice (.int .i32))) u (Int.toNat c)).length:Int)=p4:=hb.1
   refine Ok.bind (Q:=fun l=>Pv p3 l (fun b=>scf (atf P p3 p4 p6 c) p4 b)) ?_ ?_
   ·unfold wg.l4
    refine wA (fun b l=>0<=b/\b<=p3/\Pv b l (fun b=>scf (atf P p3 p4 p6 c) p4 b)) (fun b _=>(p3-b).toNat) _ ?_ 5000 _ _ ⟨by omega,by omega,Pv.nil _⟩ (by omega)
    rintro next2 b l ⟨f1,f2,f3⟩ ih2
    have fl:=f3.1
    refine Ok.ite (fun d2=>?_) (fun d2=>Ok.some (by have:=df d2; rw [show b=p3 by omega] at f3; exact f3))
    have d2:=dt d2
    refine Ok.bind (Q:=fun m=>m=mxr (fun i=>atf P p3 p4 p6 c i b) p4.toNat) ?_ ?_
    ·unfold wg.l5
     refine wA (fun m i=>0<=i/\i<=p4/\m=mxr (fun i=>atf P p3 p4 p6 c i b) i.toNat) (fun _ i=>(p4-i).toNat) _ ?_ 5000 _ _ ⟨by omega,by omega,rfl⟩ (by omega)
     rintro next3 m i ⟨e1,e2,rfl⟩ ih3
     refine Ok.ite (fun d3=>?_) (fun d3=>Ok.some (by have:=df d3; rw [show i=p4 by omega]))
     have d3:=dt d3
     have hr:=hb.2 i e1 (by omega)
     have hr1:((Kd.nth (.slice (.int .i32)) (Kd.nth (.slice (.slice (.int .i32))) u (Int.toNat c)) (Int.toNat i)).length:Int)=p3:=hr.1
     have ex:at' (row (blk u c) i) b=atf P p3 p4 p6 c i b:=hr.2 b f1 (by omega)
     obtain ⟨a1,a2⟩:=h.rg g1 (by omega) i b e1 (by omega) f1 (by omega)
     have ke:wb .i64 (at' (row (blk u c) i) b)=atf P p3 p4 p6 c i b:=by rw [ex]; exact zY (by omega) (by omega)
     have km:wb .i64 (0-atf P p3 p4 p6 c i b)=0-atf P p3 p4 p6 c i b:=zY (by omega) (by omega)
     refine Ok.gd ⟨g1,by omega,by omega,e1,by omega,f1,by omega⟩ ?_
     have e:=kw1 (x:=i) (by omega) (by omega)
     show Ok _ (next3 (imax (imax (mxr (fun i=>atf P p3 p4 p6 c i b) i.toNat) (wb .i64 (at' (row (blk u c) i) b))) (wb .i64 (0-wb .i64 (at' (row (blk u c) i) b)))) (wb .i64 (i+1)))
     rw [e,ke,km]
     refine ih3 _ _ ⟨by omega,by omega,?_⟩ (by omega)
     rw [show (i+1).toNat=i.toNat+1 by omega]
     show _=imax (imax (mxr (fun i=>atf P p3 p4 p6 c i b) i.toNat) (atf P p3 p4 p6 c (i.toNat:Int) b)) (0-atf P p3 p4 p6 c (i.toNat:Int) b)
     rw [Int.toNat_of_nonneg e1]
    ·rintro _ rfl
     refine Ok.bind (Ki _) ?_
     rintro _ rfl
     refine Ok.gd (by show ((l.length:Int)+1)*8<=_; omega) ?_
     have e:=kw1 (x:=b) (by omega) (by omega)
     dsimp only
     rw [e]
     exact ih2 _ _ ⟨by omega,by omega,f3.snoc rfl⟩ (by omega)
   ·intro l hl
    have e:=kw1 (x:=c) (by omega) (by omega)
    refine Ok.gd (by show ((X.length:Int)+1)*24<=_; omega) ?_
    dsimp only
    rw [e]
    exact ih _ _ ⟨by omega,by omega,g3.snoc hl⟩ (by omega)
  ·intro S' hS'
   rw [show S'=S from hS']
   refine Ok.bind (Ok.is hsr) ?_
   rintro _ rfl
   have hC:=hz.hC
   have hB:=hz.hB
   have htl:((tabv (B*C) z).length:Int)=((B*C:Nat):Int):=by rw [kT]
   refine Ok.bind (Q:=fun Q'=>Q'=Q) ?_ (fun r hr=>Ok.some (by rw [show r=Q from hr]))
   unfold wg.l0
   refine wA (fun i X=>0<=i/\i<=p4/\P3 i X (fun i X=>Pw p2 p3 X (fun c b=>qv (atf P p3 p4 p6 c i b) (scf (atf P p3 p4 p6 c) p4 b) (celf (rw_ C B z) c b)))) (fun i _=>(p4-i).toNat) _ ?_ 5000 _ _ ⟨by omega,by omega,P3.nil _⟩ (by omega)
   rintro next i X ⟨g1,g2,g3⟩ ih
   have gl:=g3.1
   refine Ok.ite (fun d=>?_) (fun d=>Ok.some (by have:=df d; rw [show i=p4 by omega] at g3; exact Qx.eq ⟨g3.1,g3.2⟩ hQ))
   have d:=dt d
   refine Ok.bind (Q:=fun Y=>Pw p2 p3 Y (fun c b=>qv (atf P p3 p4 p6 c i b) (scf (atf P p3 p4 p6 c) p4 b) (celf (rw_ C B z) c b))) ?_ ?_
   ·unfold wg.l1
    refine wA (fun c Y=>0<=c/\c<=p2/\Pw c p3 Y (fun c b=>qv (atf P p3 p4 p6 c i b) (scf (atf P p3 p4 p6 c) p4 b) (celf (rw_ C B z) c b))) (fun c _=>(p2-c).toNat) _ ?_ 5000 _ _ ⟨by omega,by omega,Pw.nil _ _⟩ (by omega)
    rintro next2 c Y ⟨f1,f2,f3⟩ ih2
    have fl:=f3.1
    refine Ok.ite (fun d2=>?_) (fun d2=>Ok.some (by have:=df d2; rw [show c=p2 by omega] at f3; exact f3))
    have d2:=dt d2
    have hb:Pw p4 p3 (blk u c) (atf P p3 p4 p6 c):=hu.2 c f1 (by omega)
    have hb1:((Kd.nth (.slice (.slice (.int .i32))) u (Int.toNat c)).length:Int)=p4:=hb.1
    have hr:=hb.2 i g1 (by omega)
    have hr1:((Kd.nth (.slice (.int .i32)) (Kd.nth (.slice (.slice (.int .i32))) u (Int.toNat c)) (Int.toNat i)).length:Int)=p3:=hr.1
    have hSc:=hS.2 c f1 (by omega)
    have hSc1:((Kd.nth (.slice (.int .i64)) S (Int.toNat c)).length:Int)=p3:=hSc.1
    refine Ok.bind (Q:=fun l=>Pv p3 l (fun b=>qv (atf P p3 p4 p6 c i b) (scf (atf P p3 p4 p6 c) p4 b) (celf (rw_ C B z) c b))) ?_ ?_
    ·unfold wg.l2
     refine wA (fun b l=>0<=b/\b<=p3/\Pv b l (fun b=>qv (atf P p3 p4 p6 c i b) (scf (atf P p3 p4 p6 c) p4 b) (celf (rw_ C B z) c b))) (fun b _=>(p3-b).toNat) _ ?_ 5000 _ _ ⟨by omega,by omega,Pv.nil _⟩ (by omega)
     rintro next3 b l ⟨e1,e2,e3⟩ ih3
     have el:=e3.1
     refine Ok.ite (fun d3=>?_) (fun d3=>Ok.some (by have:=df d3; rw [show b=p3 by omega] at e3; exact e3))
     have d3:=dt d3
     have hbC:b*p2=((b.toNat*C:Nat):Int):=by push_cast; rw [Int.toNat_of_nonneg e1,hC]
     have hlt:b.toNat*C+c.toNat<B*C:=by
      have:(b.toNat+1)*C<=B*C:=Nat.mul_le_mul_right _ (by omega)
      rw [Nat.add_mul,Nat.one_mul] at this
      omega
     have hBC:B*C<=8*2:=Nat.mul_le_mul (by omega) (by omega)
     have v1:at' (row (blk u c) i) b=atf P p3 p4 p6 c i b:=hr.2 b e1 (by omega)
     have v2:at' (row S c) b=scf (atf P p3 p4 p6 c) p4 b:=hSc.2 b e1 (by omega)
     have ki:wb .i64 (b*p2)=((b.toNat*C:Nat):Int):=by rw [hbC]; exact zY (by omega) (by omega)
     have kj:wb .i64 (((b.toNat*C:Nat):Int)+c)=((b.toNat*C+c.toNat:Nat):Int):=by rw [zY (by omega) (by omega)]; omega
     have v3:at' (tabv (B*C) z) ((b.toNat*C+c.toNat:Nat):Int)=celf (rw_ C B z) c b:=by
      rw [yd _ _ _ (by omega) (by omega)]
      have q:=vd (C:=C) (B:=B) (z:=z) (c:=c.toNat) (b:=b.toNat) (by omega) (by omega)
      rw [Int.toNat_of_nonneg f1,Int.toNat_of_nonneg e1] at q
      exact q.symm
     have hq:=Vj (x:=at' (row (blk u c) i) b) (by rw [v1]; exact h.rg f1 (by omega) i b g1 (by omega) e1 (by omega)) (at' (row S c) b) (at' (tabv (B*C) z) ((b.toNat*C+c.toNat:Nat):Int))
     rw [v1,v2,v3] at hq
     refine Ok.gd ⟨f1,by omega⟩ (Ok.gd (by omega) (Ok.gd ⟨g1,by omega⟩ (Ok.gd ⟨e1,by omega⟩ (Ok.gd ⟨f1,by omega⟩ (Ok.gd ⟨e1,by omega⟩ ?_)))))
     dsimp only
     rw [ki,kj]
     refine Ok.gd ⟨by omega,by omega⟩ ?_
     show Ok _ ((qZ 5000 (at' (row (blk u c) i) b) (at' (row S c) b) (at' (tabv (B*C) z) ((b.toNat*C+c.toNat:Nat):Int))).bind _)
     rw [v1,v2,v3]
     refine Ok.bind hq ?_
     rintro ⟨v,ve⟩ hv
     refine Ok.gd (by show ((l.length:Int)+1)*8<=_; omega) ?_
     have e:=kw1 (x:=b) (by omega) (by omega)
     dsimp only
     rw [e]
     exact ih3 _ _ ⟨by omega,by omega,e3.snoc hv⟩ (by omega)
    ·intro l hl
     have e:=kw1 (x:=c) (by omega) (by omega)
     refine Ok.gd (by show ((Y.length:Int)+1)*24<=_; omega) ?_
     dsimp only
     rw [e]
     exact ih2 _ _ ⟨by omega,by omega,f3.snoc hl⟩ (by omega)
   ·intro Y hY
    have e:=kw1 (x:=i) (by omega) (by omega)
    refine Ok.gd (by show ((X.length:Int)+1)*24<=_; omega) ?_
    dsimp only
    rw [e]
    exact ih _ _ ⟨by omega,by omega,g3.snoc hY⟩ (by omega)
end Go.Fo
