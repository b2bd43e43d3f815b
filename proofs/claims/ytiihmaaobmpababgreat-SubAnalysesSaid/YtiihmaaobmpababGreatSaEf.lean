/- Planes are analysed. -/
import Derived.Test.YtiihmaaobmpababGreatSaEe
import Derived.Test.YtiihmaaobmpababGreatSaOe
namespace Go.Fo
set_option maxRecDepth 6000
theorem YN (p0 p1 p2 p3 p4 p5 p6 p7 p8 p9:Int) {X:List (List Int)} (h:Sh p4 p3 X) (h4:p4<=100):Ok (fun r=>r=true) (kX 5000 X p0 p1 p2 p3 p4 p5 p6 p7 p8 p9):=by
 obtain ⟨h1,h2⟩:=h
 refine Ok.bind (Q:=fun r=>r=true) (Ok.bind (Q:=fun r=>r=true) (Ok.ite (fun _=>?_) (fun c=>?_)) (fun r hr=>Ok.some hr)) (fun r hr=>Ok.some hr)
 ·refine Ok.bind (Q:=fun r=>r=false) (Ok.bind (Q:=fun r=>r=-1) (Ok.bind (Q:=fun z=>z=.inl ()) ?_ (fun z hz=>by rw [show z=.inl () from hz]; exact Ok.some rfl)) (fun r hr=>Ok.some (by rw [show r=-1 from hr]; rfl))) (fun r hr=>Ok.some (by rw [show r=false from hr]; rfl))
  unfold wX.l0
  refine w5 (fun i=>0<=i/\i<=(X.length:Int)) (fun i=>((X.length:Int)-i).toNat) _ ?_ 5000 _ ⟨by omega,by omega⟩ (by omega)
  rintro next i ⟨g1,g2⟩ ih
  refine Ok.ite (fun d=>?_) (fun _=>Ok.some rfl)
  have d:=dt d
  have hr:((Kd.nth (.slice (.int .i32)) X (Int.toNat i)).length:Int)=p3:=h2 i g1 (by omega)
  refine Ok.gd ⟨g1,d⟩ (Ok.bind (Q:=fun r=>r=false) (Ok.bind (Q:=fun r=>r=true) (Ok.some ?_) (fun r hr=>Ok.some (by rw [show r=true from hr]; rfl))) ?_)
  ·show (((Kd.nth (.slice (.int .i32)) X (Int.toNat i)).length:Int)==p3)=true
   rw [hr]; simp
  ·intro r hr
   rw [show r=false from hr]
   refine Ok.ite (fun h=>by cases h) (fun _=>?_)
   have e:=kw1 (x:=i) (by omega) (by omega)
   exact ih _ ⟨by omega,by omega⟩ (by omega)
 ·have c:(((X.length:Int))==p4)=false:=c
  rw [h1] at c; simp at c
theorem XU (p0 p1 p2 p3 p4 p5 p6 p7 p8 p9:Int) {P:List (List (List Int))} (h:Cd p2 p4 p3 P) (h2:p2<=100) (h4:p4<=100):Ok (fun r=>r=true) (jJ 5000 p0 p1 p2 p3 p4 p5 p6 p7 p8 p9 P):=by
 obtain ⟨h1,hp⟩:=h
 refine Ok.bind (Q:=fun r=>r=true) (Ok.bind (Q:=fun r=>r=true) (Ok.ite (fun _=>?_) (fun c=>?_)) (fun r hr=>Ok.some hr)) (fun r hr=>Ok.some hr)
 ·refine Ok.bind (Q:=fun r=>r=false) (Ok.bind (Q:=fun r=>r=-1) (Ok.bind (Q:=fun z=>z=.inl ()) ?_ (fun z hz=>by rw [show z=.inl () from hz]; exact Ok.some rfl)) (fun r hr=>Ok.some (by rw [show r=-1 from hr]; rfl))) (fun r hr=>Ok.some (by rw [show r=false from hr]; rfl))
  unfold wY.l0
  refine w5 (fun i=>0<=i/\i<=(P.length:Int)) (fun i=>((P.length:Int)-i).toNat) _ ?_ 5000 _ ⟨by omega,by omega⟩ (by omega)
  rintro next i ⟨g1,g2⟩ ih
  refine Ok.ite (fun d=>?_) (fun _=>Ok.some rfl)
  have d:=dt d
  refine Ok.gd ⟨g1,d⟩ (Ok.bind (Q:=fun r=>r=false) (Ok.bind (YN p0 p1 p2 p3 p4 p5 p6 p7 p8 p9 (hp i g1 (by omega)) h4) (fun r hr=>Ok.some (by rw [show r=true from hr]; rfl))) ?_)
  intro r hr
  rw [show r=false from hr]
  refine Ok.ite (fun h=>by cases h) (fun _=>?_)
  have e:=kw1 (x:=i) (by omega) (by omega)
  exact ih _ ⟨by omega,by omega⟩ (by omega)
 ·have c:(((P.length:Int))==p2)=false:=c
  rw [h1] at c; simp at c
theorem J2 {M B:Int} {P R:List (List Int)} (hP:Sh M B P) (hR:Sh M B R) (hM:1<=M) (hM2:M<=100) (hB:1<=B) (hB2:B<=8):Ok (fun r=>Sh M B r.1/\Sh M B r.2.1/\r.2.2=0) (kO 5000 P R):=by
 have hP1:=hP.1
 have hR1:=hR.1
 refine Ok.bind (Q:=fun r=>Sh M B r.1/\Sh M B r.2.1/\r.2.2=0) ?_ (fun r hr=>Ok.some hr)
 refine Ok.bind (Q:=fun x=>x=false) (Ok.bind (jF hP hM hM2 hB hB2) ?_) ?_
 ·intro r hr
  have hr:r=B:=hr
  rw [hr]
  refine Ok.ite (fun c=>by simp at c; omega) (fun _=>Ok.bind (jF hP hM hM2 hB hB2) ?_)
  intro r2 hr2
  have hr2:r2=B:=hr2
  rw [hr2]
  refine Ok.bind (jF hR hM hM2 hB hB2) ?_
  intro r3 hr3
  have hr3:r3=B:=hr3
  rw [hr3]
  refine Ok.some ?_
  show (bif (B != B) then true else ((P.length:Int) != (R.length:Int)))=false
  rw [hP1,hR1]; simp
 rintro _ rfl
 refine Ok.ite (fun h=>by cases h) (fun _=>Ok.gd ⟨by omega,by omega,by omega⟩ (Ok.gd ⟨by omega,by omega,by omega⟩ (Ok.bind (Q:=fun r=>Sh M B r.1/\Sh M B r.2) ?_ ?_)))
 ·have hrep:=xU.rep (M:=M) (B:=B) (by omega)
  rw [show Int.toNat (P.length:Int)=M.toNat by omega]
  unfold qj.l0
  refine ql (fun i X Y=>0<=i/\i<=M/\xU M i B 0 X/\xU M i B 0 Y) (fun i _ _=>(M-i).toNat) _ ?_ 5000 _ _ _ ⟨by omega,by omega,hrep,hrep⟩ (by omega)
  rintro next i X Y ⟨g1,g2,g3,g4⟩ ih
  refine Ok.ite (fun d=>?_) (fun d=>?_)
  ·have d:=dt d
   have hr:=hP.2 i g1 (by omega)
   have hr2:=hR.2 i g1 (by omega)
   refine Ok.gd ⟨g1,d⟩ (Ok.bind (Q:=fun r=>xU M i B B r.1/\xU M i B B r.2) ?_ ?_)
   ·unfold qj.l1
    refine ql (fun b X Y=>0<=b/\b<=B/\xU M i B b X/\xU M i B b Y) (fun b _ _=>(B-b).toNat) _ ?_ 5000 _ _ _ ⟨by omega,by omega,g3,g4⟩ (by omega)
    rintro next2 b X Y ⟨f1,f2,f3,f4⟩ ih2
    refine Ok.ite (fun d2=>?_) (fun d2=>?_)
    ·have d2:b<((row P i).length:Int):=dt d2
     have hX:=f3.1
     have hY:=f4.1
     have hXl:=f3.len g1 (by omega)
     have hYl:=f4.len g1 (by omega)
     refine Ok.gd ⟨f1,d2⟩ (Ok.gd ⟨g1,by omega,f1,by show b<((row R i).length:Int); omega⟩ (Ok.bind (Q:=fun _=>True) (Ok.some trivial) ?_))
     rintro ⟨v,w⟩ _
     refine Ok.gd ⟨g1,by omega⟩ (Ok.gd (by omega) (Ok.gd (by show (((X.getD i.toNat []).length:Int)+1)*4<=_; omega) (Ok.gd ⟨g1,by omega⟩ (Ok.gd (by omega) (Ok.gd (by show (((Y.getD i.toNat []).length:Int)+1)*4<=_; omega) (Ok.gd ⟨g1,by omega⟩ (Ok.gd (by omega) (Ok.gd ⟨g1,by omega⟩ (Ok.gd (by omega) ?_)))))))))
     have e:wb .i64 (b+1)=b+1:=kw1 (by omega) (by omega)
     dsimp only
     rw [e]
     exact ih2 _ _ _ ⟨by omega,by omega,f3.app g1 (by omega) v,f4.app g1 (by omega) w⟩ (by omega)
    ·have d2:¬ b<((row P i).length:Int):=df d2
     have:b=B:=by omega
     subst this
     exact Ok.some ⟨f3,f4⟩
   ·rintro ⟨X',Y'⟩ ⟨e1,e2⟩
    have e:wb .i64 (i+1)=i+1:=kw1 (by omega) (by omega)
    dsimp only
    rw [e]
    exact ih _ _ _ ⟨by omega,by omega,e1.nxt,e2.nxt⟩ (by omega)
  ·have:i=M:=by have:=df d; omega
   subst this
   exact Ok.some ⟨g3.all,g4.all⟩
 ·rintro ⟨X,Y⟩ h
  exact Ok.some ⟨h.1,h.2,rfl⟩
theorem QC {J:List Int} (hJ:J.length<=4000):Ok (fun r=>r=true->∃ i,0<=i/\i<(J.length:Int)/\at' J i=1) (qk 5000 1 J):=by
 refine Ok.bind (Q:=fun r=>r>=0->∃ i,0<=i/\i<(J.length:Int)/\at' J i=1) ?_ (fun r hr=>Ok.some (fun h=>hr (dt h)))
 refine Ok.bind (Q:=fun z=>match z with | .inl _=>True | .inr _=>∃ i,0<=i/\i<(J.length:Int)/\at' J i=1) ?_ ?_
 ·unfold zJ.l0
  refine w5 (fun i=>0<=i/\i<=(J.length:Int)) (fun i=>((J.length:Int)-i).toNat) _ ?_ 5000 _ ⟨by omega,by omega⟩ (by omega)
  rintro next i ⟨g1,g2⟩ ih
  refine Ok.ite (fun d=>?_) (fun _=>Ok.some trivial)
  have d:=dt d
  refine Ok.gd ⟨g1,d,by omega⟩ (Ok.ite (fun c=>Ok.some ⟨i,g1,d,?_⟩) (fun _=>?_))
  ·have c:1=at' J i:=by simpa using c
   exact c.symm
  ·have e:=kw1 (x:=i) (by omega) (by omega)
   exact ih _ ⟨by omega,by omega⟩ (by omega)
 ·intro z hz
  cases z with
  | inl u=>exact Ok.some (fun h=>by omega)
  | inr i=>exact Ok.some (fun _=>hz)
theorem U3 (p0 p1 p2 p3 p4 p5 p6 p7 p8 p9:Int) (hm:yf p0 p1 p2 p3 p4 p5 p6 p7 p8 p9) {J:List Int} (hJ:Jn p0 p1 p2 p3 p4 p5 p6 p7 p8 p9 J) {P:List (List (List Int))} (hP:Cd p2 p4 p3 P):Ok (fun r=>Cd p2 p4 p3 r) (qz 5000 P J):=by
 have h3:p3=4\/p3=8:=hm.1.2.2.2.2.1
 have h4:p4=4\/p4=8\/p4=12\/p4=16:=hm.1.2.2.2.2.2.1
 have h6:p6=0\/(p6=1/\p2=2):=hm.1.2.2.2.2.2.2.2.1
 have hJ1:=hJ.1
 refine Ok.bind (QC (by omega)) ?_
 intro r hr
 refine Ok.ite (fun _=>Ok.some hP) (fun c=>?_)
 obtain ⟨i,i0,i1,hi⟩:=hr (by simpa using c)
 have h2:p2=2:=by
  rcases hJ.2 i i0 (by omega) with h | h
  ·omega
  ·omega
 have hP1:=hP.1
 have q0:=hP.2 0 (by omega) (by omega)
 have q1:=hP.2 1 (by omega) (by omega)
 refine Ok.gd (by omega) (Ok.gd (by omega) (Ok.bind (J2 (M:=p4) (B:=p3) q0 q1 (by omega) (by omega) (by omega) (by omega)) ?_))
 rintro ⟨x,y,e⟩ ⟨hx,hy,_⟩
 refine Ok.gd (by omega) (Ok.bind (YE (M:=p4) (B:=p3) q0 (by omega) (by omega) (by omega) (by omega)) ?_)
 intro X hX
 refine Ok.gd (by omega) (Ok.bind (YE (M:=p4) (B:=p3) q1 (by omega) (by omega) (by omega) (by omega)) ?_)
 intro Y hY
 refine Ok.bind (Q:=fun r=>Sh p4 p3 r.1/\Sh p4 p3 r.2) (Ok.bind (Q:=fun r=>Sh p4 p3 r.1/\Sh p4 p3 r.2) ?_ (fun r hr=>Ok.some hr)) ?_
 ·unfold z9.l0
  refine ql (fun b X Y=>0<=b/\b<=p3/\Sh p4 p3 X/\Sh p4 p3 Y) (fun b _ _=>(p3-b).toNat) _ ?_ 5000 _ _ _ ⟨by omega,by omega,hX,hY⟩ (by omega)
  rintro next b X Y ⟨g1,g2,g3,g4⟩ ih
  refine Ok.ite (fun d=>?_) (fun _=>Ok.some ⟨g3,g4⟩)
  have d:=dt d
  refine Ok.bind (Q:=fun r=>Sh p4 p3 r.1/\Sh p4 p3 r.2) (Ok.gd ⟨g1,d,by omega⟩ (Ok.ite (fun _=>Ok.bind (VG hx hy g3 g4 (by omega) (by omega) g1 (by omega)) (fun r hr=>Ok.some hr)) (fun _=>Ok.some ⟨g3,g4⟩))) ?_
  rintro ⟨X',Y'⟩ ⟨e1,e2⟩
  have e:=kw1 (x:=b) (by omega) (by omega)
  exact ih _ _ _ ⟨by omega,by omega,e1,e2⟩ (by omega)
 ·rintro ⟨X',Y'⟩ ⟨e1,e2⟩
  refine Ok.some ⟨by show (2:Int)=_; omega,fun c c0 c1=>?_⟩
  have:c=0\/c=1:=by omega
  rcases this with rfl | rfl
  ·exact e1
  ·exact e2
theorem Vk (v:Int):Ok (fun r=>0<=r/\r<=15) (kk 5000 v):=by
 refine Ok.bind (Q:=fun r=>0<=r/\r<=15) ?_ (fun r hr=>Ok.some hr)
 unfold kk.l0
 refine w5 (fun i=>0<=i/\i<=15) (fun i=>(15-i).toNat) _ ?_ 5000 _ ⟨by omega,by omega⟩ (by omega)
 rintro next i ⟨g1,g2⟩ ih
 refine Ok.gd (fun _=>g1) (Ok.ite (fun d=>?_) (fun _=>Ok.some ⟨g1,g2⟩))
 have d2:i<15:=by
  cases h:decide (i<15)
  ·rw [h] at d; cases d
  ·exact dt h
 have e:=kw1 (x:=i) (by omega) (by omega)
 exact ih _ ⟨by omega,by omega⟩ (by omega)
def Sc (B:Int) (l:List Int):Prop:=(l.length:Int)=B/\∀ q,0<=q->q<B->0<=at' l q/\at' l q<=15
theorem vO {l:List Int} {i q v:Int} (hi:0<=i) (hl:i<(l.length:Int)) (hq:0<=q):at' (l.set i.toNat v) q=if q=i then v else at' l q:=by
 show (l.set i.toNat v).getD q.toNat 0=_
 by_cases e:q=i
 ·rw [if_pos e,e,List.getD_eq_getElem?_getD,List.getElem?_set_self (by omega)]; rfl
 ·rw [if_neg e,List.getD_eq_getElem?_getD,List.getElem?_set_ne (by omega),<-List.getD_eq_getElem?_getD]; rfl
theorem yG {M B:Int} {P:List (List Int)} (hP:Sh M B P) (hM:1<=M) (hM2:M<=100) (hB:1<=B) (hB2:B<=8):Ok (fun r=>Sc B r.1) (wP 5000 P):=by
 have hP1:=hP.1
 refine Ok.bind (jF hP hM hM2 hB hB2) ?_
 intro r hr
 rw [show r=B from hr]
 refine Ok.ite (fun c=>by simp at c; omega) (fun _=>Ok.gd ⟨by omega,by omega,by omega⟩ (Ok.bind (Q:=fun l=>(l.length:Int)=B) ?_ ?_))
 ·have hrep:((List.replicate (Int.toNat B) (0:Int)).length:Int)=B:=by simp; omega
  unfold wP.l1
  refine wA (fun i l=>0<=i/\i<=M/\(l.length:Int)=B) (fun i _=>(M-i).toNat) _ ?_ 5000 _ _ ⟨by omega,by omega,hrep⟩ (by omega)
  rintro next i l ⟨g1,g2,g3⟩ ih
  refine Ok.ite (fun d=>?_) (fun _=>Ok.some g3)
  have d:=dt d
  have hr:=hP.2 i g1 (by omega)
  refine Ok.gd ⟨g1,d⟩ (Ok.bind (Q:=fun l=>(l.length:Int)=B) ?_ ?_)
  ·unfold wP.l2
   refine wA (fun b l=>0<=b/\b<=B/\(l.length:Int)=B) (fun b _=>(B-b).toNat) _ ?_ 5000 _ _ ⟨by omega,by omega,g3⟩ (by omega)
   rintro next2 b l ⟨f1,f2,f3⟩ ih2
   refine Ok.ite (fun d2=>?_) (fun _=>Ok.some f3)
   have d2:b<((row P i).length:Int):=dt d2
   refine Ok.gd ⟨f1,d2⟩ (Ok.gd ⟨f1,by omega,by omega,f1,by omega,by omega⟩ ?_)
   have e:=kw1 (x:=b) (by omega) (by omega)
   exact ih2 _ _ ⟨by omega,by omega,by rw [List.length_set]; exact f3⟩ (by omega)
  ·intro l hl
   have e:=kw1 (x:=i) (by omega) (by omega)
   exact ih _ _ ⟨by omega,by omega,hl⟩ (by omega)
 ·intro l hl
  have hl:(l.length:Int)=B:=hl
  refine Ok.gd ⟨by omega,by omega,by omega⟩ (Ok.bind (Q:=fun r=>Sc B r) ?_ (fun r hr=>Ok.some hr))
  have hrep:((List.replicate (Int.toNat B) (0:Int)).length:Int)=B:=by simp; omega
  unfold wP.l0
  refine wA (fun i y=>0<=i/\i<=B/\(y.length:Int)=B/\∀ q,0<=q->q<i->0<=at' y q/\at' y q<=15) (fun i _=>(B-i).toNat) _ ?_ 5000 _ _ ⟨by omega,by omega,hrep,fun q _ _=>by omega⟩ (by omega)
  rintro next i y ⟨g1,g2,g3,g4⟩ ih
  refine Ok.ite (fun d=>?_) (fun d=>Ok.some ⟨g3,fun q q0 q1=>g4 q q0 (by have:=df d; omega)⟩)
  have d:=dt d
  refine Ok.gd ⟨g1,d,by omega⟩ (Ok.bind (Vk _) ?_)
  intro v hv
  refine Ok.gd ⟨g1,by omega,by omega⟩ ?_
  have e:=kw1 (x:=i) (by omega) (by omega)
  refine ih _ _ ⟨by omega,by omega,by rw [List.length_set]; exact g3,fun q q0 q1=>?_⟩ (by omega)
  rw [vO g1 (by omega) q0]
  by_cases c:q=i
  ·rw [if_pos c]; exact hv
  ·rw [if_neg c]; exact g4 q q0 (by omega)
abbrev atB (v:List Bool) (i:Int):Bool:=Kd.nth .bool v (Int.toNat i)
theorem XS {l:List Bool} {i q:Int} {v:Bool} (hi:0<=i) (hl:i<(l.length:Int)) (hq:0<=q):atB (l.set i.toNat v) q=if q=i then v else atB l q:=by
 show (l.set i.toNat v).getD q.toNat false=_
 by_cases e:q=i
 ·rw [if_pos e,e,List.getD_eq_getElem?_getD,List.getElem?_set_self (by omega)]; rfl
 ·rw [if_neg e,List.getD_eq_getElem?_getD,List.getElem?_set_ne (by omega),<-List.getD_eq_getElem?_getD]; rfl
theorem VW {M B:Int} {P R:List (List Int)} (hP:Sh M B P) (hR:Sh M B R) (hM:1<=M) (hM2:M<=100) (hB:1<=B) (hB2:B<=8):Ok (fun r=>(r.1.length:Int)=B/\atB r.1 (B-1)=false) (qP 5000 P R):=by
 refine Ok.bind (J2 hP hR hM hM2 hB hB2) ?_
 rintro ⟨X,Y,e⟩ ⟨hX,hY,he⟩
 have he:e=0:=he
 subst he
 refine Ok.ite (fun h=>by cases h) (fun _=>Ok.bind (Q:=fun r=>Sc B r.1/\Sc B r.2.1/\Sc B r.2.2.1/\Sc B r.2.2.2) ?_ ?_)
 ·exact Ok.bind (yG hP hM hM2 hB hB2) (fun _ h1=>Ok.bind (yG hR hM hM2 hB hB2) (fun _ h2=>Ok.bind (yG hX hM hM2 hB hB2) (fun _ h3=>Ok.bind (yG hY hM hM2 hB hB2) (fun _ h4=>Ok.some ⟨h1,h2,h3,h4⟩))))
 rintro ⟨a,b,c,d⟩ ⟨h1,h2,h3,h4⟩
 have h1:(a.length:Int)=B:=h1.1
 have h2:(b.length:Int)=B:=h2.1
 have h3:(c.length:Int)=B:=h3.1
 have h4:(d.length:Int)=B:=h4.1
 have hrep:((List.replicate (Int.toNat (a.length:Int)) false).length:Int)=B:=by simp; omega
 have hne:List.replicate (Int.toNat (a.length:Int)) false≠[]:=by
  intro h
  rw [h] at hrep
  have:(0:Int)=B:=hrep
  omega
 have e1:wb .i64 (((List.replicate (Int.toNat (a.length:Int)) false).length:Int)-1)=B-1:=by rw [hrep]; exact zY (by omega) (by omega)
 refine Ok.gd ⟨by omega,by omega,by omega⟩ ?_
 dsimp only
 rw [e1]
 refine Ok.gd ⟨by omega,by omega,hne⟩ (Ok.bind (Q:=fun r=>(r.length:Int)=B/\atB r (B-1)=false) ?_ (fun r hr=>Ok.some hr))
 rw [show ((Int.toNat (B-1):Nat):Int)=B-1 by omega]
 unfold qP.l0
 refine wA (fun i y=>0<=i/\i<=B-1/\(y.length:Int)=B/\atB y (B-1)=false) (fun i _=>(B-1-i).toNat) _ ?_ 5000 _ _ ⟨by omega,by omega,hrep,?_⟩ (by omega)
 ·rintro next i y ⟨g1,g2,g3,g4⟩ ih
  refine Ok.ite (fun d=>?_) (fun _=>Ok.some ⟨g3,g4⟩)
  have d:=dt d
  refine Ok.gd ⟨g1,by omega⟩ (Ok.gd ⟨g1,by omega⟩ (Ok.gd ⟨g1,by omega⟩ (Ok.gd ⟨g1,by omega⟩ (Ok.gd ⟨g1,by omega⟩ (Ok.gd (by omega) ?_)))))
  have e:=kw1 (x:=i) (by omega) (by omega)
  refine ih _ _ ⟨by omega,by omega,by rw [List.length_set]; exact g3,?_⟩ (by omega)
  rw [XS g1 (by omega) (by omega),if_neg (by omega)]; exact g4
 ·show (List.replicate (Int.toNat (a.length:Int)) false).getD (B-1).toNat false=false
  rw [List.getD_eq_getElem?_getD,List.getElem?_replicate]; split<;>rfl
theorem yO (n:Nat) (q:Int):at' (List.replicate n 0) q=0:=by
 show (List.replicate n (0:Int)).getD q.toNat 0=0
 rw [List.getD_eq_getElem?_getD,List.getElem?_replicate]; split<;>rfl
theorem YX (p0 p1 p2 p3 p4 p5 p6 p7 p8 p9:Int) (hm:yf p0 p1 p2 p3 p4 p5 p6 p7 p8 p9) {P:List (List (List Int))} (hP:Cd p2 p4 p3 P):Ok (fun r=>Jn p0 p1 p2 p3 p4 p5 p6 p7 p8 p9 r/\at' r (p3-1)=0) (bif (p6==1) then
     let v1008:=(Kd.nth (.slice (.slice (.int .i32))) P 0)
     gd (0<(P.length:Int)) <|
     let v1009:=(Kd.nth (.slice (.slice (.int .i32))) P 1)
     gd (1<(P.length:Int)) <|
     (qP 5000 v1008 v1009).bind fun (r1010,_r1011)=>
     (wm.l4 5000 P r1010 (r1010.length:Int) p0 p1 p2 p3 p4 p5 p6 p7 p8 p9 5000 0 (List.replicate (Int.toNat p3) (0:Int)):Option ((List Int))).bind fun x1018=>
      some x1018
    else
     some (List.replicate (Int.toNat p3) (0:Int)):Option ((List Int))):=by
  have h3:p3=4\/p3=8:=hm.1.2.2.2.2.1
  have h4:p4=4\/p4=8\/p4=12\/p4=16:=hm.1.2.2.2.2.2.1
  have h6:p6=0\/(p6=1/\p2=2):=hm.1.2.2.2.2.2.2.2.1
  have hP1:=hP.1
  have hrep:((List.replicate (Int.toNat p3) (0:Int)).length:Int)=p3:=by simp; omega
  refine Ok.ite (fun c=>?_) (fun _=>Ok.some ⟨⟨hrep,fun i _ _=>.inl (yO _ _)⟩,yO _ _⟩)
  have c:p6=1:=by simpa using c
  have h2:p2=2:=by omega
  have q0:=hP.2 0 (by omega) (by omega)
  have q1:=hP.2 1 (by omega) (by omega)
  refine Ok.gd (by omega) (Ok.gd (by omega) (Ok.bind (VW (M:=p4) (B:=p3) q0 q1 (by omega) (by omega) (by omega) (by omega)) ?_))
  rintro ⟨t,e⟩ ⟨ht,hl⟩
  have ht:(t.length:Int)=p3:=ht
  have hl:atB t (p3-1)=false:=hl
  refine Ok.bind (Q:=fun r=>Jn p0 p1 p2 p3 p4 p5 p6 p7 p8 p9 r/\at' r (p3-1)=0) ?_ (fun r hr=>Ok.some hr)
  unfold wm.l4
  refine wA (fun i y=>0<=i/\i<=p3/\Jn p0 p1 p2 p3 p4 p5 p6 p7 p8 p9 y/\at' y (p3-1)=0) (fun i _=>(p3-i).toNat) _ ?_ 5000 _ _ ⟨by omega,by omega,⟨hrep,fun i _ _=>.inl (yO _ _)⟩,yO _ _⟩ (by omega)
  rintro next i y ⟨g1,g2,g3,g4⟩ ih
  refine Ok.ite (fun d=>?_) (fun _=>Ok.some ⟨g3,g4⟩)
  have d:=dt d
  have hy:=g3.1
  refine Ok.bind (Q:=fun r=>Jn p0 p1 p2 p3 p4 p5 p6 p7 p8 p9 r/\at' r (p3-1)=0) (Ok.gd ⟨g1,d⟩ (Ok.ite (fun ct=>Ok.gd ⟨g1,by omega,by omega⟩ (Ok.some ?_)) (fun _=>Ok.some ⟨g3,g4⟩))) ?_
  · have hi:i≠p3-1:=by
      intro h
      have ct:atB t i=true:=ct
      rw [h,hl] at ct; cases ct
    refine ⟨⟨by rw [List.length_set]; exact hy,fun q q0 q1=>?_⟩,?_⟩
    · rw [vO g1 (by omega) q0]
      by_cases e:q=i
      · rw [if_pos e]; exact .inr ⟨c,rfl⟩
      · rw [if_neg e]; exact g3.2 q q0 q1
    · rw [vO g1 (by omega) (by omega),if_neg (by omega)]; exact g4
  · intro r hr
    have e:=kw1 (x:=i) (by omega) (by omega)
    exact ih _ _ ⟨by omega,by omega,hr⟩ (by omega)
end Go.Fo
