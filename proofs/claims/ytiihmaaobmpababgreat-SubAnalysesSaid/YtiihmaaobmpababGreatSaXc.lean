/- The planes of parameters: the document. -/
import Derived.Test.YtiihmaaobmpababGreatSaXb
namespace Go.Fo
set_option maxRecDepth 6000
theorem GL (a:List (List Int)):row (a.take 1) 0=row a 0:=by
 show (a.take 1).getD 0 []=a.getD 0 []
 cases a<;>rfl
theorem GK (a:List (List Int)):row (a.drop 1) 0=row a 1:=by
 show (a.drop 1).getD 0 []=a.getD 1 []
 cases a<;>rfl
theorem X5 {B:Int} {a:List (List Int)} {f:Int->Int->Int} (ha:Pw 2 B a f) (hg:Rgf 2 B f) (hB:1<=B) (hB2:B<=8):Ok (fun r=>Pw 1 B r.1 (fun _ b=>kE (f 0 b+f 1 b))/\Pw 1 B r.2 (fun _ b=>kE (f 0 b-f 1 b))) (ko 5000 1 1 a):=by
 have ha1:=ha.1
 have r0:=ha.2 0 (by omega) (by omega)
 have r1:=ha.2 1 (by omega) (by omega)
 have eT:∀ i:Int,0<=i->i<1->row (a.take 1) i=row a 0:=fun i i0 i1=>by rw [show i=0 by omega]; exact GL a
 have eD:∀ i:Int,0<=i->i<1->row (a.drop 1) i=row a 1:=fun i i0 i1=>by rw [show i=0 by omega]; exact GK a
 have hT:Sh 1 B (a.take 1):=⟨by rw [List.length_take]; omega,fun c c0 c1=>by rw [eT c c0 c1]; exact r0.1⟩
 have hD:Sh 1 B (a.drop 1):=⟨by rw [List.length_drop]; omega,fun c c0 c1=>by rw [eD c c0 c1]; exact r1.1⟩
 have gT:Rgs 1 B (a.take 1):=fun i b i0 i1 b0 b1=>by rw [eT i i0 i1,r0.2 b b0 b1]; exact hg 0 b (by omega) (by omega) b0 b1
 have gD:Rgs 1 B (a.drop 1):=fun i b i0 i1 b0 b1=>by rw [eD i i0 i1,r1.2 b b0 b1]; exact hg 1 b (by omega) (by omega) b0 b1
 refine Ok.gd ⟨by omega,by omega,by omega⟩ ((VT (M:=1) (B:=B) hT hD (by omega) (by omega) hB2 gT gD).mono (fun r hr=>⟨hr.1.cg (fun i b i0 i1 b0 b1=>?_),hr.2.cg (fun i b i0 i1 b0 b1=>?_)⟩))
 ·show kE (at' (row (a.take 1) i) b+at' (row (a.drop 1) i) b)=_
  rw [eT i i0 i1,eD i i0 i1,r0.2 b b0 b1,r1.2 b b0 b1]
 ·show kE (at' (row (a.take 1) i) b-at' (row (a.drop 1) i) b)=_
  rw [eT i i0 i1,eD i i0 i1,r0.2 b b0 b1,r1.2 b b0 b1]
theorem Yh (p0 p1 p2 p3 p4 p5 p6 p7 p8 p9:Int) {J:List Int} {S:List (List Int)} {Q:List (List (List Int))} {C B:Nat} {z:Int->Int} (h:Shr p0 p1 p2 p3 p4 p5 p6 p7 p8 p9 S C B z) (hsr:wh 5000 p0 p1 p2 p3 p4 p5 p6 p7 p8 p9 S=some (tabv (B*C) z)) (hv:PV p0 p1 p2 p3 p4 p5 p6 p7 p8 p9 J S Q (rw_ C B z)) :
  Ok (fun r=>(r.length:Int)=p2/\∀ c,0<=c->c<p2->Pw p4 p3 (blk r c) (pnf J S Q (rw_ C B z) c)) (wn 5000 p0 p1 p2 p3 p4 p5 p6 p7 p8 p9 J S Q):=by
 obtain ⟨hj,_,hq,hlv⟩:=hv
 have hf:=h.hf
 have hm:=hf.1
 have hC:=h.hC
 have hB:=h.hB
 have h2:p2=1\/p2=2:=hm.1.2.2.2.1
 have h3:p3=4\/p3=8:=hm.1.2.2.2.2.1
 have h4:p4=4\/p4=8\/p4=12\/p4=16:=hm.1.2.2.2.2.2.1
 have h6:p6=0\/(p6=1/\p2=2):=hm.1.2.2.2.2.2.2.2.1
 have hQ:=hq.1
 have hS1:=hf.2.1
 have hj1:=hj.1
 have htl:(tabv (B*C) z).length=B*C:=kT _ _
 have hrep:((List.replicate (Int.toNat p2) ([]:List (List Int))).length:Int)=p2:=by simp; omega
 refine Ok.bind (Ok.is hsr) ?_
 rintro _ rfl
 refine Ok.gd ⟨by omega,by omega,by omega⟩ (Ok.bind (Q:=fun X=>(X.length:Int)=p2/\∀ c,0<=c->c<p2->Pw p4 p3 (blk X c) (pnf J S Q (rw_ C B z) c)) ?_ (fun r hr=>Ok.some hr))
 unfold wn.l0
 refine wA (fun i X=>0<=i/\i<=p4/\(X.length:Int)=p2/\∀ c,0<=c->c<p2->Pw i p3 (blk X c) (pnf J S Q (rw_ C B z) c)) (fun i _=>(p4-i).toNat) _ ?_ 5000 _ _ ⟨by omega,by omega,hrep,fun c c0 _=>?_⟩ (by omega)
 ·rintro next i X ⟨g1,g2,g3,g4⟩ ih
  refine Ok.ite (fun d=>?_) (fun d=>Ok.some ⟨g3,fun c c0 c1=>by have:=df d; have k:=g4 c c0 c1; rw [show i=p4 by omega] at k; exact k⟩)
  have d:=dt d
  have hb:=hq.2 i g1 (by omega)
  have hb1:=hb.1
  refine Ok.bind (Q:=fun Y=>Pw p2 p3 Y (fun c b=>lf S Q (rw_ C B z) c i b)) ?_ ?_
  ·unfold wn.l3
   refine wA (fun c Y=>0<=c/\c<=p2/\Pw c p3 Y (fun c b=>lf S Q (rw_ C B z) c i b)) (fun c _=>(p2-c).toNat) _ ?_ 5000 _ _ ⟨by omega,by omega,Pw.nil _ _⟩ (by omega)
   rintro next2 c Y ⟨f1,f2,f3⟩ ih2
   have fl:=f3.1
   refine Ok.ite (fun d2=>?_) (fun d2=>Ok.some (by have:=df d2; rw [show c=p2 by omega] at f3; exact f3))
   have d2:=dt d2
   have hbr:=hb.2 c f1 d2
   have hSr:=(hf.2.2 c f1 d2).1
   refine Ok.bind (Q:=fun l=>Pv p3 l (fun b=>lf S Q (rw_ C B z) c i b)) ?_ ?_
   ·unfold wn.l4
    refine wA (fun b l=>0<=b/\b<=p3/\Pv b l (fun b=>lf S Q (rw_ C B z) c i b)) (fun b _=>(p3-b).toNat) _ ?_ 5000 _ _ ⟨by omega,by omega,Pv.nil _⟩ (by omega)
    rintro next3 b l ⟨e1,e2,e3⟩ ih3
    have el:=e3.1
    refine Ok.ite (fun d3=>?_) (fun d3=>Ok.some (by have:=df d3; rw [show b=p3 by omega] at e3; exact e3))
    have d3:=dt d3
    have hbC:b*p2=((b.toNat*C:Nat):Int):=by push_cast; rw [Int.toNat_of_nonneg e1,hC]
    have hlt:b.toNat*C+c.toNat<B*C:=by
     have:(b.toNat+1)*C<=B*C:=Nat.mul_le_mul_right _ (by omega)
     rw [Nat.add_mul,Nat.one_mul] at this
     omega
    have hBC:B*C<=8*2:=Nat.mul_le_mul (by omega) (by omega)
    have ki:wb .i64 (b*p2)=((b.toNat*C:Nat):Int):=by rw [hbC]; exact zY (by omega) (by omega)
    have kj:wb .i64 (((b.toNat*C:Nat):Int)+c)=((b.toNat*C+c.toNat:Nat):Int):=by rw [zY (by omega) (by omega)]; omega
    have v3:at' (tabv (B*C) z) ((b.toNat*C+c.toNat:Nat):Int)=at' (row (rw_ C B z) c) b:=by
     rw [yd _ _ _ (by omega) (by omega)]
     have q:=vd (C:=C) (B:=B) (z:=z) (c:=c.toNat) (b:=b.toNat) (by omega) (by omega)
     rw [Int.toNat_of_nonneg f1,Int.toNat_of_nonneg e1] at q
     exact q.symm
    have hl:=Vs (hlv i g1 d c f1 d2 b e1 d3)
    rw [<-v3] at hl
    refine Ok.gd ⟨g1,by omega⟩ (Ok.gd ⟨f1,by show c<((blk Q i).length:Int); omega⟩ (Ok.gd ⟨e1,by show b<((row (blk Q i) c).length:Int); omega⟩ (Ok.gd ⟨f1,by omega⟩ (Ok.gd ⟨e1,by show b<((row S c).length:Int); omega⟩ ?_))))
    dsimp only
    rw [ki,kj]
    refine Ok.gd ⟨by omega,by omega⟩ (Ok.bind hl ?_)
    rintro ⟨v,ve⟩ hvv
    have hvv:v=lvv (at' (row (blk Q i) c) b) (at' (row S c) b) (at' (tabv (B*C) z) ((b.toNat*C+c.toNat:Nat):Int)):=hvv
    refine Ok.gd (by show ((l.length:Int)+1)*4<=_; omega) ?_
    have e:=kw1 (x:=b) (by omega) (by omega)
    dsimp only
    rw [e]
    exact ih3 _ _ ⟨by omega,by omega,e3.snoc (by rw [hvv,v3]; rfl)⟩ (by omega)
   ·intro l hl
    have e:=kw1 (x:=c) (by omega) (by omega)
    refine Ok.gd (by omega) ?_
    dsimp only
    rw [e]
    exact ih2 _ _ ⟨by omega,by omega,f3.snoc hl⟩ (by omega)
  ·intro a ha
   have ha:Pw p2 p3 a (fun c b=>lf S Q (rw_ C B z) c i b):=ha
   have ha1:=ha.1
   refine Ok.bind (Q:=fun Y=>Pw p2 p3 Y (fun c b=>pnf J S Q (rw_ C B z) c i b)) (Ok.ite (fun t=>?_) (fun t=>Ok.some ?_)) ?_
   ·have t:p2=2:=by simpa using t
    rw [t] at ha
    have hg:Rgf 2 p3 (fun c b=>lf S Q (rw_ C B z) c i b):=fun c b c0 c1 b0 b1=>Y2 (hlv i g1 d c c0 (by omega) b b0 b1)
    refine Ok.gd ⟨by omega,fun e=>by rw [e] at ha1; simp at ha1; omega⟩ (Ok.gd (by omega) (Ok.bind (X5 ha hg (by omega) (by omega)) ?_))
    rintro ⟨u,w⟩ ⟨hu,hw⟩
    have hu1:(u.length:Int)=1:=hu.1
    have hw1:(w.length:Int)=1:=hw.1
    have hu2:((Kd.nth (.slice (.int .i32)) u 0).length:Int)=p3:=(hu.2 0 (by omega) (by omega)).1
    have hw2:((Kd.nth (.slice (.int .i32)) w 0).length:Int)=p3:=(hw.2 0 (by omega) (by omega)).1
    refine Ok.bind (Q:=fun Y=>Pw 2 p3 Y (fun c b=>pnf J S Q (rw_ C B z) c i b)) ?_ (fun Y hY=>Ok.some (by rw [t]; exact hY))
    unfold wn.l2
    refine wA (fun b Y=>0<=b/\b<=p3/\Pw 2 p3 Y (fun c k=>if k<b then pnf J S Q (rw_ C B z) c i k else lf S Q (rw_ C B z) c i k)) (fun b _=>(p3-b).toNat) _ ?_ 5000 _ _ ⟨by omega,by omega,ha.cg (fun c k _ _ k0 _=>by rw [if_neg (by omega)])⟩ (by omega)
    rintro next2 b Y ⟨f1,f2,f3⟩ ih2
    refine Ok.ite (fun d2=>?_) (fun d2=>Ok.some (f3.cg (fun c k _ _ _ k1=>by have:=df d2; rw [if_pos (by omega)])))
    have d2:=dt d2
    refine Ok.bind (Q:=fun Y=>Pw 2 p3 Y (fun c k=>if k<b+1 then pnf J S Q (rw_ C B z) c i k else lf S Q (rw_ C B z) c i k)) (Ok.gd ⟨f1,by omega⟩ (Ok.ite (fun c1=>?_) (fun c1=>Ok.some ?_))) ?_
    ·have c1:at' J b=1:=by simpa using c1
     have y1:=f3.1
     have y2:((List.getD Y 0 []).length:Int)=p3:=(f3.2 0 (by omega) (by omega)).1
     have k0:at' (row u 0) b=kE (lf S Q (rw_ C B z) 0 i b+lf S Q (rw_ C B z) 1 i b):=(hu.2 0 (by omega) (by omega)).2 b f1 d2
     have k1:at' (row w 0) b=kE (lf S Q (rw_ C B z) 0 i b-lf S Q (rw_ C B z) 1 i b):=(hw.2 0 (by omega) (by omega)).2 b f1 d2
     have hA:Pw 2 p3 (Y.set 0 ((Y.getD 0 []).set b.toNat (at' (row u 0) b))) (fun c k=>if c=0/\k=b then at' (row u 0) b else if k<b then pnf J S Q (rw_ C B z) c i k else lf S Q (rw_ C B z) c i k) :=
      f3.set (i:=0) (by decide) (by decide) f1 d2 (fun q k _ _ _ _=>rfl)
     have hB':Pw 2 p3 ((Y.set 0 ((Y.getD 0 []).set b.toNat (at' (row u 0) b))).set 1 (((Y.set 0 ((Y.getD 0 []).set b.toNat (at' (row u 0) b))).getD 1 []).set b.toNat (at' (row w 0) b))) (fun c k=>if k<b+1 then pnf J S Q (rw_ C B z) c i k else lf S Q (rw_ C B z) c i k) :=
      hA.set (i:=1) (by decide) (by decide) f1 d2 (fun q k q0 q1 _ _=>by
       by_cases c2:k=b
       ·rw [if_pos (by omega),c2]
        unfold pnf
        rw [if_pos c1]
        by_cases c3:q=0
        ·rw [if_pos c3,if_neg (by omega),if_pos ⟨c3,rfl⟩,k0]
        ·rw [if_neg c3,if_pos ⟨by omega,rfl⟩,k1]
       ·have n1:¬ (q=1/\k=b):=fun x=>c2 x.2
        have n2:¬ (q=0/\k=b):=fun x=>c2 x.2
        by_cases c3:k<b
        ·rw [if_pos (by omega:k<b+1),if_neg n1,if_neg n2,if_pos c3]
        ·rw [if_neg (by omega:¬ k<b+1),if_neg n1,if_neg n2,if_neg c3])
     have y3:(((Y.set 0 ((Y.getD 0 []).set b.toNat (at' (row u 0) b))).getD 1 []).length:Int)=p3:=(hA.2 1 (by omega) (by omega)).1
     have y4:((Y.set 0 ((Y.getD 0 []).set b.toNat (at' (row u 0) b))).length:Int)=2:=hA.1
     have y5:(((Y.set 0 ((Y.getD 0 []).set b.toNat (Kd.nth (.int .i32) (Kd.nth (.slice (.int .i32)) u 0) (Int.toNat b)))).getD 1 []).length:Int)=p3:=y3
     have y6:((Y.set 0 ((Y.getD 0 []).set b.toNat (Kd.nth (.int .i32) (Kd.nth (.slice (.int .i32)) u 0) (Int.toNat b)))).length:Int)=2:=y4
     refine Ok.gd (by omega) (Ok.gd (by omega) (Ok.gd (by omega) (Ok.gd ⟨f1,by omega⟩ (Ok.gd ⟨f1,by omega⟩ (Ok.gd (by omega) (Ok.gd (by omega) (Ok.gd (by omega) (Ok.gd (by omega) (Ok.gd ⟨f1,by omega⟩ (Ok.gd ⟨f1,by omega⟩ (Ok.gd (by omega) (Ok.some hB'))))))))))))
    ·have c1:¬ at' J b=1:=by simpa using c1
     refine f3.cg (fun c k _ _ _ _=>?_)
     by_cases c2:k=b
     ·rw [if_neg (by omega),if_pos (by omega),c2]; unfold pnf; rw [if_neg c1]
     ·by_cases c3:k<b
      ·rw [if_pos c3,if_pos (by omega)]
      ·rw [if_neg c3,if_neg (by omega)]
    ·intro Y' hY'
     have e:=kw1 (x:=b) (by omega) (by omega)
     dsimp only
     rw [e]
     exact ih2 _ _ ⟨by omega,by omega,hY'⟩ (by omega)
   ·have t:¬ p2=2:=by simpa using t
    refine ha.cg (fun c b _ _ b0 b1=>?_)
    unfold pnf
    rw [if_neg (fun e=>by rcases hj.2 b b0 b1 with e' | e'<;>omega)]
   ·intro Z hZ
    have hZ:Pw p2 p3 Z (fun c b=>pnf J S Q (rw_ C B z) c i b):=hZ
    have hZ1:=hZ.1
    refine Ok.bind (Q:=fun X=>(X.length:Int)=p2/\∀ q,0<=q->q<p2->Pw (i+1) p3 (blk X q) (pnf J S Q (rw_ C B z) q)) ?_ ?_
    ·unfold wn.l1
     refine wA (fun c X=>0<=c/\c<=p2/\(X.length:Int)=p2/\(∀ q,0<=q->q<c->Pw (i+1) p3 (blk X q) (pnf J S Q (rw_ C B z) q))/\∀ q,c<=q->q<p2->Pw i p3 (blk X q) (pnf J S Q (rw_ C B z) q)) (fun c _=>(p2-c).toNat) _ ?_ 5000 _ _ ⟨by omega,by omega,g3,fun q _ _=>by omega,fun q q0 q1=>g4 q q0 q1⟩ (by omega)
     rintro next2 c X' ⟨f1,f2,f3,f4,f5⟩ ih2
     refine Ok.ite (fun d2=>?_) (fun d2=>Ok.some ⟨f3,fun q q0 q1=>f4 q q0 (by have:=df d2; omega)⟩)
     have d2:=dt d2
     have k5:=f5 c (by omega) d2
     have k51:((List.getD X' (Int.toNat c) []).length:Int)=i:=k5.1
     refine Ok.gd ⟨f1,by omega⟩ (Ok.gd (by omega) (Ok.gd ⟨f1,by omega⟩ (Ok.gd (by show (((List.getD X' (Int.toNat c) []).length:Int)+1)*24<=_; omega) (Ok.gd ⟨f1,by omega⟩ (Ok.gd (by omega) ?_)))))
     have e:=kw1 (x:=c) (by omega) (by omega)
     dsimp only
     rw [e]
     refine ih2 _ _ ⟨by omega,by omega,by rw [List.length_set]; exact f3,fun q q0 q1=>?_,fun q q0 q1=>?_⟩ (by omega)
     ·rw [yN f1 (by omega) q0]
      by_cases e2:q=c
      ·rw [if_pos e2,e2]; exact k5.snoc (hZ.2 c f1 d2)
      ·rw [if_neg e2]; exact f4 q q0 (by omega)
     ·rw [yN f1 (by omega) (by omega),if_neg (by omega)]; exact f5 q (by omega) q1
    ·rintro X' ⟨k1,k2⟩
     have e:=kw1 (x:=i) (by omega) (by omega)
     dsimp only
     rw [e]
     exact ih _ _ ⟨by omega,by omega,k1,k2⟩ (by omega)
 ·have:blk (List.replicate (Int.toNat p2) ([]:List (List Int))) c=[]:=by
   show (List.replicate (Int.toNat p2) ([]:List (List Int))).getD c.toNat []=[]
   rw [List.getD_eq_getElem?_getD,List.getElem?_replicate]; split<;>rfl
  rw [this]; exact Pw.nil _ _
end Go.Fo
