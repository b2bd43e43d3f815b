/- Planes,number by number: middle and side,scales. -/
import Derived.Test.YtiihmaaobmpababGreatSaEf
import Derived.KernelRfl
namespace Go.Fo
set_option maxRecDepth 6000
def vc (x:Int):Prop:=-2147483648<=x/\x<=2147483647
def Pv (B:Int) (l:List Int) (g:Int->Int):Prop:=(l.length:Int)=B/\∀ k,0<=k->k<B->at' l k=g k
def Pw (M B:Int) (X:List (List Int)) (f:Int->Int->Int):Prop:=(X.length:Int)=M/\∀ i,0<=i->i<M->Pv B (row X i) (f i)
theorem Pw.sh {M B:Int} {X:List (List Int)} {f:Int->Int->Int} (h:Pw M B X f):Sh M B X:=⟨h.1,fun i i0 i1=>(h.2 i i0 i1).1⟩
theorem XT {l:List Int} {v q:Int} (hq:0<=q) (hX:q<=(l.length:Int)):at' (l++[v]) q=if q=(l.length:Int) then v else at' l q:=by
 show (l++[v]).getD q.toNat 0=if q=(l.length:Int) then v else l.getD q.toNat 0
 rw [List.getD_eq_getElem?_getD,List.getD_eq_getElem?_getD]
 by_cases e:q=(l.length:Int)
 ·rw [if_pos e,List.getElem?_append_right (by omega),show q.toNat-l.length=0 by omega]; rfl
 ·rw [if_neg e,List.getElem?_append_left (by omega)]
theorem Pv.nil (g:Int->Int):Pv 0 [] g:=⟨rfl,fun k _ _=>by omega⟩
theorem Pv.snoc {b v:Int} {l:List Int} {g:Int->Int} (h:Pv b l g) (hv:v=g b):Pv (b+1) (l++[v]) g:=by
 have h1:=h.1
 refine ⟨by rw [List.length_append]; show (((l.length+1:Nat)):Int)=_; omega,fun k k0 k1=>?_⟩
 rw [XT k0 (by omega)]
 by_cases e:k=(l.length:Int)
 ·rw [if_pos e,hv,e,h1]
 ·rw [if_neg e]; exact h.2 k k0 (by omega)
theorem Pv.eq {B:Int} {l l':List Int} {g:Int->Int} (h:Pv B l g) (h':Pv B l' g):l=l':=by
 have a:=h.1; have a':=h'.1
 refine List.ext_getElem (by omega) (fun i i0 i1=>?_)
 have e:∀ (x:List Int) (hx:i<x.length),at' x (i:Int)=x[i]:=fun x hx=>by
  show x.getD i 0=_
  rw [List.getD_eq_getElem?_getD,List.getElem?_eq_getElem hx]; rfl
 rw [<-e l i0,<-e l' i1,h.2 i (by omega) (by omega),h'.2 i (by omega) (by omega)]
theorem Pv.cg {B:Int} {l:List Int} {g g':Int->Int} (h:Pv B l g) (e:∀ k,0<=k->k<B->g k=g' k):Pv B l g':=⟨h.1,fun k k0 k1=>(h.2 k k0 k1).trans (e k k0 k1)⟩
theorem Pw.nil (B:Int) (f:Int->Int->Int):Pw 0 B [] f:=⟨rfl,fun k _ _=>by omega⟩
theorem Pw.snoc {i B:Int} {X:List (List Int)} {r:List Int} {f:Int->Int->Int} (h:Pw i B X f) (hr:Pv B r (f i)):Pw (i+1) B (X++[r]) f:=by
 have h1:=h.1
 refine ⟨by rw [List.length_append]; show (((X.length+1:Nat)):Int)=_; omega,fun q q0 q1=>?_⟩
 rw [Xg q0 (by omega)]
 by_cases e:q=(X.length:Int)
 ·rw [if_pos e,e,h1]; exact hr
 ·rw [if_neg e]; exact h.2 q q0 (by omega)
theorem Q2 (X:List (List Int)) {i:Nat} (h:i<X.length):row X (i:Int)=X[i]:=by
 show X.getD i []=_
 rw [List.getD_eq_getElem?_getD,List.getElem?_eq_getElem h]; rfl
theorem Pw.eq {M B:Int} {X X':List (List Int)} {f:Int->Int->Int} (h:Pw M B X f) (h':Pw M B X' f):X=X':=by
 have a:=h.1; have a':=h'.1
 refine List.ext_getElem (by omega) (fun i i0 i1=>?_)
 rw [<-Q2 X i0,<-Q2 X' i1]
 exact (h.2 i (by omega) (by omega)).eq (h'.2 i (by omega) (by omega))
theorem Pw.cg {M B:Int} {X:List (List Int)} {f f':Int->Int->Int} (h:Pw M B X f) (e:∀ i b,0<=i->i<M->0<=b->b<B->f i b=f' i b):Pw M B X f':=⟨h.1,fun i i0 i1=>(h.2 i i0 i1).cg (fun b b0 b1=>e i b i0 i1 b0 b1)⟩
def Pp (M i B b:Int) (X:List (List Int)) (f:Int->Int->Int):Prop:=xU M i B b X/\∀ q k,0<=q->q<=i->q<M->0<=k->k<B->(q<i\/k<b)->at' (row X q) k=f q k
theorem Pp.app {M i B b v:Int} {X:List (List Int)} {f:Int->Int->Int} (h:Pp M i B b X f) (hi:0<=i) (hM:i<M) (hv:v=f i b):Pp M i B (b+1) (X.set i.toNat (X.getD i.toNat []++[v])) f:=by
 refine ⟨h.1.app hi hM _,fun q k q0 q1 q2 k0 k1 hk=>?_⟩
 have hX:=h.1.1
 have hl:((X.getD i.toNat []).length:Int)=b:=h.1.len hi hM
 rw [yQ hi (by omega) q0]
 by_cases e:q=i
 ·rw [if_pos e]
  subst e
  by_cases e3:k<=b
  ·rw [XT k0 (by omega)]
   by_cases e2:k=b
   ·rw [if_pos (by omega),hv,e2]
   ·rw [if_neg (by omega)]; exact h.2 q k q0 (by omega) q2 k0 k1 (.inr (by omega))
  ·omega
 ·rw [if_neg e]; exact h.2 q k q0 q1 q2 k0 k1 (.inl (by omega))
theorem Pp.nxt {M i B:Int} {X:List (List Int)} {f:Int->Int->Int} (h:Pp M i B B X f):Pp M (i+1) B 0 X f :=
 ⟨h.1.nxt,fun q k q0 q1 q2 k0 k1 hk=>h.2 q k q0 (by omega) q2 k0 k1 (.inr k1)⟩
theorem Pp.rep {M B:Int} (f:Int->Int->Int) (h:0<=M):Pp M 0 B 0 (List.replicate M.toNat []) f:=⟨xU.rep h,fun q k q0 q1 q2 k0 k1 hk=>by omega⟩
theorem Pp.all {M B b:Int} {X:List (List Int)} {f:Int->Int->Int} (h:Pp M M B b X f):Pw M B X f :=
 ⟨h.1.1,fun i i0 i1=>⟨h.1.all.2 i i0 i1,fun k k0 k1=>h.2 i k i0 (by omega) i1 k0 k1 (.inl i1)⟩⟩
theorem KR (x:Int):kshr .i64 x 1=x/2:=by
 show x.fdiv (2^1)=_
 rw [Int.fdiv_eq_ediv_of_nonneg _ (by decide)]; rfl
theorem GA {a b:Int} (ha:vc a) (hb:vc b):k7 5000 a b=some ((a+b)/2,(a-b)/2):=by
 obtain ⟨a1,a2⟩:=ha
 obtain ⟨b1,b2⟩:=hb
 unfold k7
 dsimp only
 rw [zY (x:=a) (by omega) (by omega),zY (x:=b) (by omega) (by omega),zY (x:=a+b) (by omega) (by omega),zY (x:=a-b) (by omega) (by omega),KR,KR,yH (by omega) (by omega),yH (by omega) (by omega)]
abbrev midf (P R:List (List Int)) (i b:Int):Int:=(at' (row P i) b+at' (row R i) b)/2
abbrev sidf (P R:List (List Int)) (i b:Int):Int:=(at' (row P i) b-at' (row R i) b)/2
def Rgs (M B:Int) (P:List (List Int)):Prop:=∀ i b,0<=i->i<M->0<=b->b<B->vc (at' (row P i) b)
theorem VF {M B:Int} {P R:List (List Int)} (hP:Sh M B P) (hR:Sh M B R) (hM:1<=M) (hM2:M<=100) (hB:1<=B) (hB2:B<=8) (gP:Rgs M B P) (gR:Rgs M B R):Ok (fun r=>Pw M B r.1 (midf P R)/\Pw M B r.2.1 (sidf P R)/\r.2.2=0) (kO 5000 P R):=by
 have hP1:=hP.1
 have hR1:=hR.1
 refine Ok.bind (Q:=fun r=>Pw M B r.1 (midf P R)/\Pw M B r.2.1 (sidf P R)/\r.2.2=0) ?_ (fun r hr=>Ok.some hr)
 refine Ok.bind (Q:=fun x=>x=false) (Ok.bind (jF hP hM hM2 hB hB2) ?_) ?_
 ·intro r hr
  have hr:r=B:=hr
  rw [hr]
  refine Ok.ite (fun c=>by simp at c; omega) (fun _=>Ok.bind (jF hP hM hM2 hB hB2) ?_)
  intro r2 hr2
  have hr2:r2=B:=hr2
  rw [hr2]
  refine Ok.bind (jF hR hM hM2 hB hB2) ?_
  intro r3 hr3
  have hr3:r3=B:=hr3
  rw [hr3]
  refine Ok.some ?_
  show (bif (B != B) then true else ((P.length:Int) != (R.length:Int)))=false
  rw [hP1,hR1]; simp
 rintro _ rfl
 refine Ok.ite (fun h=>by cases h) (fun _=>Ok.gd ⟨by omega,by omega,by omega⟩ (Ok.gd ⟨by omega,by omega,by omega⟩ (Ok.bind (Q:=fun r=>Pw M B r.1 (midf P R)/\Pw M B r.2 (sidf P R)) ?_ ?_)))
 ·rw [show Int.toNat (P.length:Int)=M.toNat by omega]
  unfold qj.l0
  refine ql (fun i X Y=>0<=i/\i<=M/\Pp M i B 0 X (midf P R)/\Pp M i B 0 Y (sidf P R)) (fun i _ _=>(M-i).toNat) _ ?_ 5000 _ _ _ ⟨by omega,by omega,Pp.rep _ (by omega),Pp.rep _ (by omega)⟩ (by omega)
  rintro next i X Y ⟨g1,g2,g3,g4⟩ ih
  refine Ok.ite (fun d=>?_) (fun d=>?_)
  ·have d:=dt d
   have hr:=hP.2 i g1 (by omega)
   have hr2:=hR.2 i g1 (by omega)
   refine Ok.gd ⟨g1,d⟩ (Ok.bind (Q:=fun r=>Pp M i B B r.1 (midf P R)/\Pp M i B B r.2 (sidf P R)) ?_ ?_)
   ·unfold qj.l1
    refine ql (fun b X Y=>0<=b/\b<=B/\Pp M i B b X (midf P R)/\Pp M i B b Y (sidf P R)) (fun b _ _=>(B-b).toNat) _ ?_ 5000 _ _ _ ⟨by omega,by omega,g3,g4⟩ (by omega)
    rintro next2 b X Y ⟨f1,f2,f3,f4⟩ ih2
    refine Ok.ite (fun d2=>?_) (fun d2=>?_)
    ·have d2:b<((row P i).length:Int):=dt d2
     have hX:=f3.1.1
     have hY:=f4.1.1
     have hXl:=f3.1.len g1 (by omega)
     have hYl:=f4.1.len g1 (by omega)
     refine Ok.gd ⟨f1,d2⟩ (Ok.gd ⟨g1,by omega,f1,by show b<((row R i).length:Int); omega⟩ (Ok.bind (Ok.is (GA (gP i b g1 (by omega) f1 (by omega)) (gR i b g1 (by omega) f1 (by omega)))) ?_))
     rintro _ rfl
     refine Ok.gd ⟨g1,by omega⟩ (Ok.gd (by omega) (Ok.gd (by show (((X.getD i.toNat []).length:Int)+1)*4<=_; omega) (Ok.gd ⟨g1,by omega⟩ (Ok.gd (by omega) (Ok.gd (by show (((Y.getD i.toNat []).length:Int)+1)*4<=_; omega) (Ok.gd ⟨g1,by omega⟩ (Ok.gd (by omega) (Ok.gd ⟨g1,by omega⟩ (Ok.gd (by omega) ?_)))))))))
     have e:wb .i64 (b+1)=b+1:=kw1 (by omega) (by omega)
     dsimp only
     rw [e]
     exact ih2 _ _ _ ⟨by omega,by omega,f3.app g1 (by omega) rfl,f4.app g1 (by omega) rfl⟩ (by omega)
    ·have d2:¬ b<((row P i).length:Int):=df d2
     have:b=B:=by omega
     subst this
     exact Ok.some ⟨f3,f4⟩
   ·rintro ⟨X',Y'⟩ ⟨e1,e2⟩
    have e:wb .i64 (i+1)=i+1:=kw1 (by omega) (by omega)
    dsimp only
    rw [e]
    exact ih _ _ _ ⟨by omega,by omega,e1.nxt,e2.nxt⟩ (by omega)
  ·have:i=M:=by have:=df d; omega
   subst this
   exact Ok.some ⟨g3.all,g4.all⟩
 ·rintro ⟨X,Y⟩ h
  exact Ok.some ⟨h.1,h.2,rfl⟩
theorem Wm {x:Int} (h0:-4611686018427387904<=x) (h1:x<=4611686018427387903) {d:Int} (hd:1<=d) (hd2:d<=4294967296):w4 5000 x d=some (x/d):=by
 have ha:=Int.mul_tdiv_add_tmod x d
 have hq:=Int.mul_ediv_add_emod x d
 have h3:=Int.emod_nonneg x (b:=d) (by omega)
 have h4:=Int.emod_lt_of_pos x (b:=d) (by omega)
 have t1:=Int.lt_tmod_of_pos x (b:=d) (by omega)
 have t2:=Int.tmod_lt_of_pos x (b:=d) (by omega)
 have e1:Int.tdiv x d=x/d/\x.tmod d=x%d\/Int.tdiv x d=x/d+1/\x.tmod d=x%d-d:=by
  by_cases c:x.tmod d<0
  ·right
   have hm:d*(x.tdiv d-1-x/d)=0:=by
    have e:d*(x.tdiv d-1-x/d)=x%d-x.tmod d-d:=by rw [Int.mul_sub,Int.mul_sub,Int.mul_one]; omega
    by_cases z:x.tdiv d-1-x/d=0
    ·rw [z,Int.mul_zero]
    ·rcases Int.lt_or_gt_of_ne z with z | z
     ·have:d*(x.tdiv d-1-x/d)<=d*(-1):=Int.mul_le_mul_of_nonneg_left (by omega) (by omega)
      omega
     ·have:d*1<=d*(x.tdiv d-1-x/d):=Int.mul_le_mul_of_nonneg_left (by omega) (by omega)
      omega
   have:x.tdiv d-1-x/d=0:=by
    rcases Int.mul_eq_zero.1 hm with h | h
    ·omega
    ·exact h
   refine ⟨by omega,?_⟩
   have e:d*x.tdiv d=d*(x/d)+d:=by rw [show x.tdiv d=x/d+1 by omega,Int.mul_add,Int.mul_one]
   omega
  ·left
   have hm:d*(x.tdiv d-x/d)=x%d-x.tmod d:=by rw [Int.mul_sub]; omega
   have:x.tdiv d-x/d=0:=by
    by_cases z:x.tdiv d-x/d=0
    ·exact z
    ·rcases Int.lt_or_gt_of_ne z with z | z
     ·have:d*(x.tdiv d-x/d)<=d*(-1):=Int.mul_le_mul_of_nonneg_left (by omega) (by omega)
      omega
     ·have:d*1<=d*(x.tdiv d-x/d):=Int.mul_le_mul_of_nonneg_left (by omega) (by omega)
      omega
   refine ⟨by omega,?_⟩
   have e:x.tdiv d=x/d:=by omega
   rw [e] at ha; omega
 have hb1:-4611686018427387904<=x/d:=Int.le_ediv_of_mul_le (by omega) (by
  have:-4611686018427387904*d<=-4611686018427387904*1:=Int.mul_le_mul_of_nonpos_left (by omega) hd
  omega)
 have hb2:x/d<=4611686018427387903:=Int.ediv_le_of_le_mul (by omega) (by
  have:4611686018427387903*1<=4611686018427387903*d:=Int.mul_le_mul_of_nonneg_left (by omega) (by omega)
  omega)
 unfold w4
 rcases e1 with ⟨e1,e2⟩ | ⟨e1,e2⟩
 ·have hm:x/d*d=x-x%d:=by rw [Int.mul_comm]; omega
  rw [e1,zY (x:=x/d) (by omega) (by omega)]
  refine qi (by omega) ?_
  rw [zY (x:=x/d*d) (by omega) (by omega)]
  exact wJ (wM (decide_eq_false (by omega)) rfl) rfl
 ·have hm:(x/d+1)*d=x-x%d+d:=by rw [Int.add_mul,Int.one_mul,Int.mul_comm]; omega
  have h5:x%d≠0:=by
   intro h0'
   omega
  rw [e1,zY (x:=x/d+1) (by omega) (by omega)]
  refine qi (by omega) ?_
  rw [zY (x:=(x/d+1)*d) (by omega) (by omega)]
  refine wJ (wQ (decide_eq_true (by omega)) ?_) rfl
  rw [zY (by omega) (by omega),Int.add_sub_cancel]
theorem XC {M B:Int} {P R:List (List Int)} (hP:Sh M B P) (hR:Sh M B R) (hM2:M<=100) (hB0:0<=B) (hB2:B<=8) (gP:Rgs M B P) (gR:Rgs M B R):Ok (fun r=>Pw M B r.1 (midf P R)/\Pw M B r.2 (sidf P R)) (wR 5000 P R):=by
 have hP1:=hP.1
 have hR1:=hR.1
 refine Ok.bind (Q:=fun r=>Pw M B r.1 (midf P R)/\Pw M B r.2 (sidf P R)) ?_ (fun r hr=>Ok.some hr)
 unfold wR.l0
 refine ql (fun i X Y=>0<=i/\i<=M/\Pw i B X (midf P R)/\Pw i B Y (sidf P R)) (fun i _ _=>(M-i).toNat) _ ?_ 5000 _ _ _ ⟨by omega,by omega,Pw.nil _ _,Pw.nil _ _⟩ (by omega)
 rintro next i X Y ⟨g1,g2,g3,g4⟩ ih
 refine Ok.ite (fun d=>?_) (fun d=>?_)
 ·have d:=dt d
  have hr:=hP.2 i g1 (by omega)
  have hr2:=hR.2 i g1 (by omega)
  have hX:=g3.1
  have hY:=g4.1
  refine Ok.bind (Q:=fun r=>Pv B r.1 (midf P R i)/\Pv B r.2 (sidf P R i)) ?_ ?_
  ·unfold wR.l1
   refine ql (fun b x y=>0<=b/\b<=B/\Pv b x (midf P R i)/\Pv b y (sidf P R i)) (fun b _ _=>(B-b).toNat) _ ?_ 5000 _ _ _ ⟨by omega,by omega,Pv.nil _,Pv.nil _⟩ (by omega)
   rintro next2 b x y ⟨f1,f2,f3,f4⟩ ih2
   refine Ok.gd ⟨g1,d⟩ (Ok.ite (fun d2=>?_) (fun d2=>?_))
   ·have d2:b<((row P i).length:Int):=dt d2
    have hx:=f3.1
    have hy:=f4.1
    obtain ⟨a1,a2⟩:=gP i b g1 (by omega) f1 (by omega)
    obtain ⟨b1,b2⟩:=gR i b g1 (by omega) f1 (by omega)
    refine Ok.gd ⟨g1,d⟩ (Ok.gd ⟨f1,d2⟩ (Ok.gd ⟨g1,by omega⟩ (Ok.gd ⟨f1,by show b<((row R i).length:Int); omega⟩ ?_)))
    have ka:wb .i64 (at' (row P i) b)=at' (row P i) b:=zY (by omega) (by omega)
    have kb:wb .i64 (at' (row R i) b)=at' (row R i) b:=zY (by omega) (by omega)
    have kab:wb .i64 (at' (row P i) b+at' (row R i) b)=at' (row P i) b+at' (row R i) b:=zY (by omega) (by omega)
    have kmb:wb .i64 (at' (row P i) b-at' (row R i) b)=at' (row P i) b-at' (row R i) b:=zY (by omega) (by omega)
    have e:wb .i64 (b+1)=b+1:=kw1 (by omega) (by omega)
    show Ok _ ((w4 5000 (wb .i64 (wb .i64 (at' (row P i) b)+wb .i64 (at' (row R i) b))) 2).bind _)
    rw [ka,kb,kab]
    refine Ok.bind (Ok.is (Wm (by omega) (by omega) (by decide) (by decide))) ?_
    rintro _ rfl
    refine Ok.gd (by show ((x.length:Int)+1)*4<=_; omega) ?_
    show Ok _ ((w4 5000 (wb .i64 (wb .i64 (at' (row P i) b)-wb .i64 (at' (row R i) b))) 2).bind _)
    rw [ka,kb,kmb]
    refine Ok.bind (Ok.is (Wm (by omega) (by omega) (by decide) (by decide))) ?_
    rintro _ rfl
    refine Ok.gd (by show ((y.length:Int)+1)*4<=_; omega) ?_
    rw [e]
    exact ih2 _ _ _ ⟨by omega,by omega,f3.snoc (yH (by omega) (by omega)),f4.snoc (yH (by omega) (by omega))⟩ (by omega)
   ·have d2:¬ b<((row P i).length:Int):=df d2
    have:b=B:=by omega
    subst this
    exact Ok.some ⟨f3,f4⟩
  ·rintro ⟨x,y⟩ ⟨e1,e2⟩
   have e:wb .i64 (i+1)=i+1:=kw1 (by omega) (by omega)
   refine Ok.gd (by show ((X.length:Int)+1)*24<=_; omega) (Ok.gd (by show ((Y.length:Int)+1)*24<=_; omega) ?_)
   rw [e]
   exact ih _ _ _ ⟨by omega,by omega,g3.snoc e1,g4.snoc e2⟩ (by omega)
 ·have:i=M:=by have:=df d; omega
  subst this
  exact Ok.some ⟨g3,g4⟩
end Go.Fo
