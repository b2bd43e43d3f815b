/- Planes are analysed: the codes. -/
import Derived.Test.YtiihmaaobmpababGreatSaEf
namespace Go.Fo
set_option maxRecDepth 6000
theorem qrange {r D V:Int} (hD:0<D) (hV:1<=V) (h1:1-D<=r) (h2:r<=D-1):-V<=r*V/D/\r*V/D<=V-1:=by
 constructor
 ·refine Int.le_ediv_of_mul_le hD ?_
  have:=Int.mul_nonneg (show 0<=r+D by omega) (show 0<=V by omega)
  rw [Int.add_mul,Int.mul_comm D V] at this
  rw [Int.neg_mul]; omega
 ·have h:=Int.mul_le_mul_of_nonneg_left (show 1<=D-r by omega) (show 0<=V by omega)
  rw [Int.mul_sub,Int.mul_one] at h
  have:r*V/D<V:=Int.ediv_lt_of_lt_mul hD (by rw [Int.mul_comm r V]; omega)
  omega
theorem gF:((List.range 16).all fun s=>kshl .i64 2 (s:Int)==2^(s+1))=true:=by kernel_rfl
theorem sh2 {s:Int} (h0:0<=s) (h1:s<=15):kshl .i64 2 s=2^(s.toNat+1):=by
 have h:=List.all_eq_true.mp gF s.toNat (List.mem_range.mpr (by omega))
 rw [show ((s.toNat:Nat):Int)=s by omega] at h
 exact beq_iff_eq.mp h
theorem p2r {n m:Nat} (h:n<=m):(1:Int)<=2^n/\(2:Int)^n<=2^m:=⟨Kk (s:=0) (by omega),Kk h⟩
theorem uH {x a b:Int} (h:a<=b):Ok (fun r=>a<=r/\r<=b) (ya 5000 x a b):=by
 refine Ok.bind (Q:=fun r=>a<=r/\r<=b) (Ok.ite (fun _=>Ok.some ⟨Int.le_refl _,h⟩) (fun d=>Ok.ite (fun _=>Ok.some ⟨h,Int.le_refl _⟩) (fun d2=>Ok.some ?_))) (fun r hr=>Ok.some hr)
 have:=df d
 have:=df d2
 exact ⟨by omega,by omega⟩
theorem uZ (x:Int) {s:Int} (h1:s<=60):kshr .i64 x s=x/2^s.toNat:=by
 unfold kshr
 rw [show min (Int.toNat s) IntKind.i64.bits=s.toNat from Nat.min_eq_left (by show s.toNat<=64; omega)]
 exact Int.fdiv_eq_ediv_of_nonneg _ (Int.pow_nonneg (by decide))
theorem VN (v:Int) {s w:Int} (hs:0<=s/\s<=15) (hw:w=0\/2<=w/\w<=16):Ok (fun r=>lev r.1 s w) (xj 5000 v s w):=by
 have hmay:j4 5000 s w=some true:=by
  unfold j4
  rw [decide_eq_true (show s>=0 from hs.1),decide_eq_true (show s<=15 from hs.2)]
  rcases hw with h | ⟨h,h'⟩
  ·rw [h]; rfl
  ·rw [decide_eq_true (show w>=2 from h),decide_eq_true (show w<=16 from h')]
   cases (w==0)<;>rfl
 refine Ok.bind (Ok.is hmay) ?_
 rintro _ rfl
 refine Ok.ite (fun h=>by cases h) (fun _=>Ok.ite (fun c=>Ok.some ?_) (fun c=>?_))
 ·have c:w=0:=by simpa using c
  exact ⟨⟨hs.1,hs.2,hw⟩,Int.le_refl _,fun _=>rfl,fun h=>by omega⟩
 ·have c:w≠0:=by simpa using c
  have hw2:2<=w/\w<=16:=by omega
  have hD:=p2r (n:=s.toNat+1) (m:=16) (by omega)
  have hV:=p2r (n:=w.toNat) (m:=16) (by omega)
  have hV4:(2:Int)^2<=2^w.toNat:=Kk (by omega)
  have e16:(2:Int)^16=65536:=rfl
  have e4:(2:Int)^2=4:=rfl
  dsimp only
  rw [sh2 hs.1 hs.2,Kc (by omega) hw2.2,zY (x:=s+1) (by omega) (by omega)]
  have e1:(s+1).toNat=s.toNat+1:=by omega
  generalize hDe:(2:Int)^(s.toNat+1)=D at *
  generalize hVe:(2:Int)^w.toNat=V at *
  rw [zY (x:=1-D) (by omega) (by omega),zY (x:=D-1) (by omega) (by omega)]
  refine Ok.gd hs.1 (Ok.gd (by omega) (Ok.bind (uH (by omega)) ?_))
  intro r hr
  have hr:1-D<=r/\r<=D-1:=hr
  have hq:=qrange (r:=r) (D:=D) (V:=V-1) (by omega) (by omega) hr.1 hr.2
  have hb:-4294967296<=r*(V-1)/\r*(V-1)<=4294967296:=by
   have a1:=Int.mul_le_mul_of_nonneg_right (show r<=65536 by omega) (show 0<=V-1 by omega)
   have a2:=Int.mul_le_mul_of_nonneg_right (show -65536<=r by omega) (show 0<=V-1 by omega)
   omega
  refine Ok.gd (by omega) (Ok.some ?_)
  dsimp only
  rw [zY (x:=r*(V-1)) (by omega) (by omega),uZ (r*(V-1)) (s:=s+1) (by omega),e1,hDe,zY (x:=r*(V-1)/D+(V-1)) (by omega) (by omega),uZ _ (s:=1) (by decide)]
  show lev ((r*(V-1)/D+(V-1))/2) s w
  refine ⟨⟨hs.1,hs.2,hw⟩,by omega,fun h=>absurd h c,fun _=>?_⟩
  rw [hVe]; omega
def LV (r s w:List Int) (n:Int):Prop:=(r.length:Int)=n/\∀ b,0<=b->b<n->lev (at' r b) (at' s b) (at' w b)
def PL (S sh:List (List Int)) (C B c b:Int) (X:List (List Int)):Prop:=(X.length:Int)=C/\∀ q,0<=q->q<C->LV (row X q) (row S q) (row sh q) (if q<c then B else if q=c then b else 0)
theorem Gq {l:List Int} {v q:Int} (hq:0<=q) (hl:q<=(l.length:Int)):at' (l++[v]) q=if q=(l.length:Int) then v else at' l q:=by
 show (l++[v]).getD q.toNat 0=_
 by_cases e:q=(l.length:Int)
 ·rw [if_pos e,List.getD_eq_getElem?_getD,List.getElem?_append_right (by omega),show q.toNat-l.length=0 by omega]; rfl
 ·rw [if_neg e,List.getD_eq_getElem?_getD,List.getElem?_append_left (by omega),<-List.getD_eq_getElem?_getD]; rfl
theorem LV.app {r s w:List Int} {n v:Int} (h:LV r s w n) (hn:0<=n) (hv:lev v (at' s n) (at' w n)):LV (r++[v]) s w (n+1):=by
 obtain ⟨h1,h2⟩:=h
 refine ⟨by rw [List.length_append]; show (((r.length+1:Nat)):Int)=_; omega,fun b b0 b1=>?_⟩
 rw [Gq b0 (by omega),h1]
 by_cases e:b=n
 ·rw [if_pos e,e]; exact hv
 ·rw [if_neg e]; exact h2 b b0 (by omega)
theorem PL.app {S sh:List (List Int)} {C B c b:Int} {X:List (List Int)} (h:PL S sh C B c b X) (hc:0<=c) (hc2:c<C) (hb:0<=b) {v:Int} (hv:lev v (at' (row S c) b) (at' (row sh c) b)):PL S sh C B c (b+1) (X.set c.toNat (X.getD c.toNat []++[v])):=by
 obtain ⟨h1,h2⟩:=h
 refine ⟨by rw [List.length_set]; exact h1,fun q q0 q1=>?_⟩
 have hq:=h2 q q0 q1
 rw [yQ hc (by omega) q0]
 by_cases e:q=c
 ·subst e
  rw [if_pos rfl,if_neg (by omega),if_pos rfl]
  rw [if_neg (by omega),if_pos rfl] at hq
  exact hq.app hb hv
 ·rw [if_neg e]
  by_cases e2:q<c
  ·rw [if_pos e2] at hq ⊢; exact hq
  ·rw [if_neg e2,if_neg e] at hq ⊢; exact hq
theorem PL.nxt {S sh:List (List Int)} {C B c:Int} {X:List (List Int)} (h:PL S sh C B c B X):PL S sh C B (c+1) 0 X:=by
 refine ⟨h.1,fun q q0 q1=>?_⟩
 have hq:=h.2 q q0 q1
 by_cases e2:q<c
 ·rw [if_pos e2] at hq; rw [if_pos (by omega)]; exact hq
 ·rw [if_neg e2] at hq
  by_cases e:q=c
  ·rw [if_pos e] at hq; rw [if_pos (by omega)]; exact hq
  ·rw [if_neg e] at hq; rw [if_neg (by omega)]; split<;>exact hq
theorem PL.rep {S sh:List (List Int)} {C B:Int} (h:0<=C):PL S sh C B 0 0 (List.replicate C.toNat []):=by
 have hr:=xU.rep (M:=C) (B:=0) h
 refine ⟨hr.1,fun q q0 q1=>?_⟩
 have e:=hr.2 q q0 q1
 have e0:((row (List.replicate C.toNat []) q).length:Int)=0:=by rw [e]; split<;>(try split)<;>rfl
 refine ⟨by rw [e0,if_neg (by omega)]; split<;>rfl,fun b b0 b1=>?_⟩
 rw [if_neg (by omega)] at b1
 split at b1<;>omega
theorem PL.len {S sh:List (List Int)} {C B c b:Int} {X:List (List Int)} (h:PL S sh C B c b X) (hc:0<=c) (hc2:c<C):((X.getD c.toNat []).length:Int)=b:=by
 have:=(h.2 c hc hc2).1
 rw [if_neg (by omega),if_pos rfl] at this; exact this
theorem Yq (p0 p1 p2 p3 p4 p5 p6 p7 p8 p9:Int) (hm:yf p0 p1 p2 p3 p4 p5 p6 p7 p8 p9) {P:List (List (List Int))} (hP:Cd p2 p4 p3 P) (J:List Int) {S sh:List (List Int)} (hf:Fit p0 p1 p2 p3 p4 p5 p6 p7 p8 p9 S) (hsh:Sh p2 p3 sh) (hw:∀ c,0<=c->c<p2->∀ b,0<=b->b<p3->at' (row sh c) b=0\/2<=at' (row sh c) b/\at' (row sh c) b<=16) :
  Ok (fun Y=>(Y.length:Int)=p4/\∀ i,0<=i->i<p4->PL S sh p2 p3 p2 0 (blk Y i)) (wm.l0 5000 P sh ((List.replicate (Int.toNat p4) ([]:List (List Int))).length:Int) p0 p1 p2 p3 p4 p5 p6 p7 p8 p9 S J 5000 0 (List.replicate (Int.toNat p4) ([]:List (List Int)))):=by
 have h2:p2=1\/p2=2:=hm.1.2.2.2.1
 have h3:p3=4\/p3=8:=hm.1.2.2.2.2.1
 have h4:p4=4\/p4=8\/p4=12\/p4=16:=hm.1.2.2.2.2.2.1
 have hrep:((List.replicate (Int.toNat p4) ([]:List (List Int))).length:Int)=p4:=by simp; omega
 have hP1:=hP.1
 have hS1:=hf.2.1
 have hs1:=hsh.1
 rw [hrep]
 unfold wm.l0
 refine wA (fun i Y=>0<=i/\i<=p4/\(Y.length:Int)=p4/\∀ q,0<=q->q<i->PL S sh p2 p3 p2 0 (blk Y q)) (fun i _=>(p4-i).toNat) _ ?_ 5000 _ _ ⟨by omega,by omega,hrep,fun q _ _=>by omega⟩ (by omega)
 rintro next i Y ⟨g1,g2,g3,g4⟩ ih
 refine Ok.ite (fun d=>?_) (fun d=>Ok.some ⟨g3,fun q q0 q1=>g4 q q0 (by have:=df d; omega)⟩)
 have d:=dt d
 refine Ok.gd ⟨by omega,by omega,by omega⟩ (Ok.gd ⟨g1,by omega⟩ (Ok.gd (by omega) (Ok.bind (Q:=fun X=>PL S sh p2 p3 p2 0 X) ?_ ?_)))
 ·unfold wm.l1
  refine wA (fun c X=>0<=c/\c<=p2/\PL S sh p2 p3 c 0 X) (fun c _=>(p2-c).toNat) _ ?_ 5000 _ _ ⟨by omega,by omega,PL.rep (by omega)⟩ (by omega)
  rintro next2 c X ⟨f1,f2,f3⟩ ih2
  refine Ok.ite (fun d2=>?_) (fun d2=>Ok.some ?_)
  ·have d2:c<(P.length:Int):=dt d2
   have hb:=hP.2 c f1 (by omega)
   have hb1:=hb.1
   have hrw:=hb.2 i g1 (by omega)
   have hS:=hf.2.2 c f1 (by omega)
   have hsr:=hsh.2 c f1 (by omega)
   refine Ok.gd ⟨f1,d2,g1,by show i<((blk P c).length:Int); omega⟩ (Ok.bind (Q:=fun X=>PL S sh p2 p3 c p3 X) ?_ ?_)
   ·unfold wm.l2
    refine wA (fun b X=>0<=b/\b<=p3/\PL S sh p2 p3 c b X) (fun b _=>(p3-b).toNat) _ ?_ 5000 _ _ ⟨by omega,by omega,f3⟩ (by omega)
    rintro next3 b X ⟨e1,e2,e3⟩ ih3
    refine Ok.ite (fun d3=>?_) (fun d3=>Ok.some ?_)
    ·have d3:b<((row (blk P c) i).length:Int):=dt d3
     have hX1:=e3.1
     have hXl:=e3.len f1 (by omega)
     refine Ok.gd ⟨e1,d3⟩ (Ok.gd ⟨f1,by omega⟩ (Ok.gd ⟨e1,by show b<((row S c).length:Int); omega⟩ (Ok.gd ⟨f1,by omega⟩ (Ok.gd ⟨e1,by show b<((row sh c).length:Int); omega⟩ (Ok.bind (VN _ (hS.2 b e1 (by omega)) (hw c f1 (by omega) b e1 (by omega))) ?_)))))
     rintro ⟨v,ve⟩ hv
     refine Ok.gd ⟨g1,by omega⟩ (Ok.gd ⟨g1,by omega⟩ (Ok.gd ⟨f1,by omega⟩ (Ok.gd (by omega) (Ok.gd (by show (((X.getD c.toNat []).length:Int)+1)*8<=_; omega) (Ok.gd ⟨f1,by omega⟩ (Ok.gd (by omega) ?_))))))
     have e:wb .i64 (b+1)=b+1:=kw1 (by omega) (by omega)
     dsimp only
     rw [e]
     exact ih3 _ _ ⟨by omega,by omega,e3.app f1 (by omega) e1 hv⟩ (by omega)
    ·have d3:¬ b<((row (blk P c) i).length:Int):=df d3
     have:b=p3:=by omega
     subst this
     exact e3
   ·intro X' hX'
    have e:wb .i64 (c+1)=c+1:=kw1 (by omega) (by omega)
    dsimp only
    rw [e]
    exact ih2 _ _ ⟨by omega,by omega,PL.nxt hX'⟩ (by omega)
  ·have d2:¬ c<(P.length:Int):=df d2
   have:c=p2:=by omega
   subst this
   exact f3
 ·intro X hX
  have e:wb .i64 (i+1)=i+1:=kw1 (by omega) (by omega)
  dsimp only
  rw [e]
  refine ih _ _ ⟨by omega,by omega,by rw [List.length_set]; exact g3,fun q q0 q1=>?_⟩ (by omega)
  rw [yN g1 (by omega) q0]
  by_cases e:q=i
  ·rw [if_pos e]; exact hX
  ·rw [if_neg e]; exact g4 q q0 (by omega)
theorem Ja (p0 p1 p2 p3 p4 p5 p6 p7 p8 p9:Int) (hm:yf p0 p1 p2 p3 p4 p5 p6 p7 p8 p9) {P:List (List (List Int))} (hP:Cd p2 p4 p3 P):Ok (fun r=>r.2.2.2=0/\∃ C B z,Shr p0 p1 p2 p3 p4 p5 p6 p7 p8 p9 r.2.1 C B z/\PV p0 p1 p2 p3 p4 p5 p6 p7 p8 p9 r.1 r.2.1 r.2.2.1 (rw_ C B z)) (wm 5000 p0 p1 p2 p3 p4 p5 p6 p7 p8 p9 P):=by
 have h2:p2=1\/p2=2:=hm.1.2.2.2.1
 have h3:p3=4\/p3=8:=hm.1.2.2.2.2.1
 have h4:p4=4\/p4=8\/p4=12\/p4=16:=hm.1.2.2.2.2.2.1
 refine Ok.bind (Ok.is ((Wu p0 p1 p2 p3 p4 p5 p6 p7 p8 p9).trans (by rw [if_pos hm]))) ?_
 rintro _ rfl
 refine Ok.ite (fun h=>by cases h) (fun _=>Ok.bind (XU p0 p1 p2 p3 p4 p5 p6 p7 p8 p9 hP (by omega) (by omega)) ?_)
 rintro _ rfl
 refine Ok.ite (fun h=>by cases h) (fun _=>Ok.gd ⟨by omega,by omega,by omega⟩ (Ok.bind (YX p0 p1 p2 p3 p4 p5 p6 p7 p8 p9 hm hP) ?_))
 rintro J ⟨hJ,hJl⟩
 refine Ok.bind (U3 p0 p1 p2 p3 p4 p5 p6 p7 p8 p9 hm hJ hP) ?_
 intro P' hP'
 have hP1:=hP'.1
 refine Ok.bind (Q:=fun S=>Fit p0 p1 p2 p3 p4 p5 p6 p7 p8 p9 S) ?_ ?_
 ·unfold wm.l3
  refine wA (fun i S=>0<=i/\i<=p2/\(S.length:Int)=i/\∀ q,0<=q->q<i->Sc p3 (row S q)) (fun i _=>(p2-i).toNat) _ ?_ 5000 _ _ ⟨by omega,by omega,rfl,fun q _ _=>by omega⟩ (by omega)
  rintro next i S ⟨g1,g2,g3,g4⟩ ih
  refine Ok.ite (fun d=>?_) (fun d=>Ok.some ?_)
  ·have d:=dt d
   have hb:=hP'.2 i g1 (by omega)
   refine Ok.gd ⟨g1,d⟩ (Ok.bind (yG (M:=p4) (B:=p3) hb (by omega) (by omega) (by omega) (by omega)) ?_)
   rintro ⟨l,e⟩ hl
   refine Ok.gd (by show ((S.length:Int)+1)*24<=_; omega) ?_
   have e:wb .i64 (i+1)=i+1:=kw1 (by omega) (by omega)
   dsimp only
   rw [e]
   refine ih _ _ ⟨by omega,by omega,by rw [List.length_append]; show (((S.length+1:Nat)):Int)=_; omega,fun q q0 q1=>?_⟩ (by omega)
   rw [Xg q0 (by omega)]
   by_cases e:q=(S.length:Int)
   ·rw [if_pos e]; exact hl
   ·rw [if_neg e]; exact g4 q q0 (by omega)
  ·have d:=df d
   exact ⟨hm,by omega,fun c c0 c1=>g4 c c0 (by omega)⟩
 intro S hf
 obtain ⟨C,B,z,hS⟩:=Vv p0 p1 p2 p3 p4 p5 p6 p7 p8 p9 hf
 refine Ok.bind (Ok.is hS.ha) ?_
 rintro _ rfl
 have hsh:Sh p2 p3 (rw_ C B z):=by rw [<-hS.hC,<-hS.hB]; exact XE
 refine Ok.gd ⟨by omega,by omega,by omega⟩ (Ok.bind (Yq p0 p1 p2 p3 p4 p5 p6 p7 p8 p9 hm hP' J hf hsh ?_) ?_)
 ·intro c c0 c1 b b0 b1
  have hC:=hS.hC
  have hB:=hS.hB
  have e:=vd (C:=C) (B:=B) (z:=z) (c:=c.toNat) (b:=b.toNat) (by omega) (by omega)
  rw [show ((c.toNat:Nat):Int)=c by omega,show ((b.toNat:Nat):Int)=b by omega] at e
  rw [e]
  have a1:=hS.hz ((b.toNat*C+c.toNat:Nat):Int)
  have a2:=hS.h1 ((b.toNat*C+c.toNat:Nat):Int)
  omega
 ·rintro Q ⟨hQ1,hQ2⟩
  refine Ok.some ⟨rfl,C,B,z,hS,hJ,hJl,⟨hQ1,fun i i0 i1=>⟨(hQ2 i i0 i1).1,fun c c0 c1=>?_⟩⟩,fun i i0 i1 c c0 c1 b b0 b1=>?_⟩
  ·have:=((hQ2 i i0 i1).2 c c0 c1).1
   rw [if_pos c1] at this; exact this
  ·have:=((hQ2 i i0 i1).2 c c0 c1).2 b b0
   rw [if_pos c1] at this; exact this b1
end Go.Fo
