/- Levels and sides,number by number: the program and the document. -/
import Derived.Test.YtiihmaaobmpababGreatSaVf
namespace Go.Fo
set_option maxRecDepth 6000
def kE (x:Int):Int:=if x < -2147483648 then -2147483648 else if x>2147483647 then 2147483647 else x
theorem vi (x:Int):-2147483648<=kE x/\kE x<=2147483647:=by
 unfold kE
 split
 ·omega
 ·split<;>omega
theorem YL (K:Nat) (x:Int):jW K x=some (kE x):=by
 have hb:=vi x
 have hw:qp K x (-2147483648) 2147483647=some (kE x):=by
  unfold qp kE
  by_cases a:x < -2147483648
  ·rw [if_pos a]; exact wQ (decide_eq_true a) rfl
  ·rw [if_neg a]
   refine wM (decide_eq_false a) ?_
   by_cases b:x>2147483647
   ·rw [if_pos b]; exact wQ (decide_eq_true b) rfl
   ·rw [if_neg b]; exact wM (decide_eq_false b) rfl
 refine wJ hw ?_
 rw [yH hb.1 hb.2]
theorem Vb (K:Nat) (x:Int):qe K x 32=some (kE x):=by
 unfold qe
 have e3:wb .i64 (kshl .i64 1 (wb .u64 (wb .i64 (32-1)))-1)=2147483647:=by decide
 dsimp only
 rw [e3]
 refine qi (by decide) ?_
 unfold kE
 by_cases a:x>2147483647
 ·rw [if_neg (by omega),if_pos a]; exact wQ (decide_eq_true a) rfl
 ·refine wM (decide_eq_false a) ?_
  have e7:wb .i64 (wb .i64 (0-2147483647)-1)=-2147483648:=by decide
  rw [e7]
  by_cases b:x < -2147483648
  ·rw [if_pos b]; exact wQ (decide_eq_true b) rfl
  ·rw [if_neg b,if_neg a]; exact wM (decide_eq_false b) rfl
theorem gw {a b:Int} (ha:vc a) (hb:vc b):vq 5000 a b=some (kE (a+b)):=by
 obtain ⟨a1,a2⟩:=ha
 obtain ⟨b1,b2⟩:=hb
 unfold vq
 dsimp only
 rw [zY (x:=a) (by omega) (by omega),zY (x:=b) (by omega) (by omega),zY (x:=a+b) (by omega) (by omega)]
 exact wJ (YL _ _) rfl
theorem gj {a b:Int} (ha:vc a) (hb:vc b):vy 5000 a b=some (kE (a-b)):=by
 obtain ⟨a1,a2⟩:=ha
 obtain ⟨b1,b2⟩:=hb
 unfold vy
 dsimp only
 rw [zY (x:=a) (by omega) (by omega),zY (x:=b) (by omega) (by omega),zY (x:=a-b) (by omega) (by omega)]
 exact wJ (YL _ _) rfl
theorem U4 {a b:Int} (ha:vc a) (hb:vc b):xa 5000 a b=some (kE (a+b),kE (a-b)):=wJ (gw ha hb) (wJ (gj ha hb) rfl)
abbrev sumf (P R:List (List Int)) (i b:Int):Int:=kE (at' (row P i) b+at' (row R i) b)
abbrev diff (P R:List (List Int)) (i b:Int):Int:=kE (at' (row P i) b-at' (row R i) b)
theorem ut {M B:Int} {P R:List (List Int)} (hP:Sh M B P) (hR:Sh M B R) (hM:1<=M) (hM2:M<=100) (hB:1<=B) (hB2:B<=8) (gP:Rgs M B P) (gR:Rgs M B R):Ok (fun r=>Pw M B r.1 (sumf P R)/\Pw M B r.2.1 (diff P R)/\r.2.2=0) (xJ 5000 P R):=by
 have hP1:=hP.1
 have hR1:=hR.1
 refine Ok.bind (Q:=fun r=>Pw M B r.1 (sumf P R)/\Pw M B r.2.1 (diff P R)/\r.2.2=0) ?_ (fun r hr=>Ok.some hr)
 refine Ok.bind (Q:=fun x=>x=false) (Ok.bind (jF hP hM hM2 hB hB2) ?_) ?_
 ·intro r hr
  have hr:r=B:=hr
  rw [hr]
  refine Ok.ite (fun c=>by simp at c; omega) (fun _=>Ok.bind (jF hP hM hM2 hB hB2) ?_)
  intro r2 hr2
  have hr2:r2=B:=hr2
  rw [hr2]
  refine Ok.bind (jF hR hM hM2 hB hB2) ?_
  intro r3 hr3
  have hr3:r3=B:=hr3
  rw [hr3]
  refine Ok.some ?_
  show (bif (B != B) then true else ((P.length:Int) != (R.length:Int)))=false
  rw [hP1,hR1]; simp
 rintro _ rfl
 refine Ok.ite (fun h=>by cases h) (fun _=>Ok.gd ⟨by omega,by omega,by omega⟩ (Ok.gd ⟨by omega,by omega,by omega⟩ (Ok.bind (Q:=fun r=>Pw M B r.1 (sumf P R)/\Pw M B r.2 (diff P R)) ?_ ?_)))
 ·rw [show Int.toNat (P.length:Int)=M.toNat by omega]
  unfold qd.l0
  refine ql (fun i X Y=>0<=i/\i<=M/\Pp M i B 0 X (sumf P R)/\Pp M i B 0 Y (diff P R)) (fun i _ _=>(M-i).toNat) _ ?_ 5000 _ _ _ ⟨by omega,by omega,Pp.rep _ (by omega),Pp.rep _ (by omega)⟩ (by omega)
  rintro next i X Y ⟨g1,g2,g3,g4⟩ ih
  refine Ok.ite (fun d=>?_) (fun d=>?_)
  ·have d:=dt d
   have hr:=hP.2 i g1 (by omega)
   have hr2:=hR.2 i g1 (by omega)
   refine Ok.gd ⟨g1,d⟩ (Ok.bind (Q:=fun r=>Pp M i B B r.1 (sumf P R)/\Pp M i B B r.2 (diff P R)) ?_ ?_)
   ·unfold qd.l1
    refine ql (fun b X Y=>0<=b/\b<=B/\Pp M i B b X (sumf P R)/\Pp M i B b Y (diff P R)) (fun b _ _=>(B-b).toNat) _ ?_ 5000 _ _ _ ⟨by omega,by omega,g3,g4⟩ (by omega)
    rintro next2 b X Y ⟨f1,f2,f3,f4⟩ ih2
    refine Ok.ite (fun d2=>?_) (fun d2=>?_)
    ·have d2:b<((row P i).length:Int):=dt d2
     have hX:=f3.1.1
     have hY:=f4.1.1
     have hXl:=f3.1.len g1 (by omega)
     have hYl:=f4.1.len g1 (by omega)
     refine Ok.gd ⟨f1,d2⟩ (Ok.gd ⟨g1,by omega,f1,by show b<((row R i).length:Int); omega⟩ (Ok.bind (Ok.is (U4 (gP i b g1 (by omega) f1 (by omega)) (gR i b g1 (by omega) f1 (by omega)))) ?_))
     rintro _ rfl
     refine Ok.gd ⟨g1,by omega⟩ (Ok.gd (by omega) (Ok.gd (by show (((X.getD i.toNat []).length:Int)+1)*4<=_; omega) (Ok.gd ⟨g1,by omega⟩ (Ok.gd (by omega) (Ok.gd (by show (((Y.getD i.toNat []).length:Int)+1)*4<=_; omega) (Ok.gd ⟨g1,by omega⟩ (Ok.gd (by omega) (Ok.gd ⟨g1,by omega⟩ (Ok.gd (by omega) ?_)))))))))
     have e:wb .i64 (b+1)=b+1:=kw1 (by omega) (by omega)
     dsimp only
     rw [e]
     exact ih2 _ _ _ ⟨by omega,by omega,f3.app g1 (by omega) rfl,f4.app g1 (by omega) rfl⟩ (by omega)
    ·have d2:¬ b<((row P i).length:Int):=df d2
     have:b=B:=by omega
     subst this
     exact Ok.some ⟨f3,f4⟩
   ·rintro ⟨X',Y'⟩ ⟨e1,e2⟩
    have e:wb .i64 (i+1)=i+1:=kw1 (by omega) (by omega)
    dsimp only
    rw [e]
    exact ih _ _ _ ⟨by omega,by omega,e1.nxt,e2.nxt⟩ (by omega)
  ·have:i=M:=by have:=df d; omega
   subst this
   exact Ok.some ⟨g3.all,g4.all⟩
 ·rintro ⟨X,Y⟩ h
  exact Ok.some ⟨h.1,h.2,rfl⟩
theorem VT {M B:Int} {P R:List (List Int)} (hP:Sh M B P) (hR:Sh M B R) (hM2:M<=100) (hB0:0<=B) (hB2:B<=8) (gP:Rgs M B P) (gR:Rgs M B R):Ok (fun r=>Pw M B r.1 (sumf P R)/\Pw M B r.2 (diff P R)) (zb 5000 P R):=by
 have hP1:=hP.1
 have hR1:=hR.1
 refine Ok.bind (Q:=fun r=>Pw M B r.1 (sumf P R)/\Pw M B r.2 (diff P R)) ?_ (fun r hr=>Ok.some hr)
 unfold zb.l0
 refine ql (fun i X Y=>0<=i/\i<=M/\Pw i B X (sumf P R)/\Pw i B Y (diff P R)) (fun i _ _=>(M-i).toNat) _ ?_ 5000 _ _ _ ⟨by omega,by omega,Pw.nil _ _,Pw.nil _ _⟩ (by omega)
 rintro next i X Y ⟨g1,g2,g3,g4⟩ ih
 refine Ok.ite (fun d=>?_) (fun d=>?_)
 ·have d:=dt d
  have hr:=hP.2 i g1 (by omega)
  have hr2:=hR.2 i g1 (by omega)
  have hX:=g3.1
  have hY:=g4.1
  refine Ok.bind (Q:=fun r=>Pv B r.1 (sumf P R i)/\Pv B r.2 (diff P R i)) ?_ ?_
  ·unfold zb.l1
   refine ql (fun b x y=>0<=b/\b<=B/\Pv b x (sumf P R i)/\Pv b y (diff P R i)) (fun b _ _=>(B-b).toNat) _ ?_ 5000 _ _ _ ⟨by omega,by omega,Pv.nil _,Pv.nil _⟩ (by omega)
   rintro next2 b x y ⟨f1,f2,f3,f4⟩ ih2
   refine Ok.gd ⟨g1,d⟩ (Ok.ite (fun d2=>?_) (fun d2=>?_))
   ·have d2:b<((row P i).length:Int):=dt d2
    have hx:=f3.1
    have hy:=f4.1
    obtain ⟨a1,a2⟩:=gP i b g1 (by omega) f1 (by omega)
    obtain ⟨b1,b2⟩:=gR i b g1 (by omega) f1 (by omega)
    refine Ok.gd ⟨g1,d⟩ (Ok.gd ⟨f1,d2⟩ (Ok.gd ⟨g1,by omega⟩ (Ok.gd ⟨f1,by show b<((row R i).length:Int); omega⟩ ?_)))
    have ka:wb .i64 (at' (row P i) b)=at' (row P i) b:=zY (by omega) (by omega)
    have kb:wb .i64 (at' (row R i) b)=at' (row R i) b:=zY (by omega) (by omega)
    have kab:wb .i64 (at' (row P i) b+at' (row R i) b)=at' (row P i) b+at' (row R i) b:=zY (by omega) (by omega)
    have kmb:wb .i64 (at' (row P i) b-at' (row R i) b)=at' (row P i) b-at' (row R i) b:=zY (by omega) (by omega)
    have e:wb .i64 (b+1)=b+1:=kw1 (by omega) (by omega)
    show Ok _ ((qe 5000 (wb .i64 (wb .i64 (at' (row P i) b)+wb .i64 (at' (row R i) b))) 32).bind _)
    rw [ka,kb,kab]
    refine Ok.bind (Ok.is (Vb _ _)) ?_
    rintro _ rfl
    refine Ok.gd (by show ((x.length:Int)+1)*4<=_; omega) ?_
    show Ok _ ((qe 5000 (wb .i64 (wb .i64 (at' (row P i) b)-wb .i64 (at' (row R i) b))) 32).bind _)
    rw [ka,kb,kmb]
    refine Ok.bind (Ok.is (Vb _ _)) ?_
    rintro _ rfl
    refine Ok.gd (by show ((y.length:Int)+1)*4<=_; omega) ?_
    rw [e]
    exact ih2 _ _ _ ⟨by omega,by omega,f3.snoc (yH (vi _).1 (vi _).2),f4.snoc (yH (vi _).1 (vi _).2)⟩ (by omega)
   ·have d2:¬ b<((row P i).length:Int):=df d2
    have:b=B:=by omega
    subst this
    exact Ok.some ⟨f3,f4⟩
  ·rintro ⟨x,y⟩ ⟨e1,e2⟩
   have e:wb .i64 (i+1)=i+1:=kw1 (by omega) (by omega)
   refine Ok.gd (by show ((X.length:Int)+1)*24<=_; omega) (Ok.gd (by show ((Y.length:Int)+1)*24<=_; omega) ?_)
   rw [e]
   exact ih _ _ _ ⟨by omega,by omega,g3.snoc e1,g4.snoc e2⟩ (by omega)
 ·have:i=M:=by have:=df d; omega
  subst this
  exact Ok.some ⟨g3,g4⟩
def lvv (q s w:Int):Int:=if w=0 then 0 else (2*q+1)*2^(s.toNat+1)/(2^w.toNat-1)-2^(s.toNat+1)
theorem V1 {q R E:Int} (hR:2<=R) (hR2:R<=65536) (hE:3<=E) (hE2:E<=65535) (q0:0<=q) (q1:q<E):0<=(2*q+1)*R/\(2*q+1)*R<=8589934592/\0<=(2*q+1)*R/E/\(2*q+1)*R/E<=2*R:=by
 have h0:0<=(2*q+1)*R:=Int.mul_nonneg (by omega) (by omega)
 have h1:(2*q+1)*R<=131072*65536:=Int.mul_le_mul (by omega) hR2 (by omega) (by decide)
 have h2:(2*q+1)*R<=(2*E)*R:=Int.mul_le_mul_of_nonneg_right (by omega) (by omega)
 have e:(2*E)*R=2*R*E:=by rw [Int.mul_assoc,Int.mul_comm E R,<-Int.mul_assoc]
 exact ⟨h0,by omega,Int.ediv_nonneg h0 (by omega),Int.ediv_le_of_le_mul (by omega) (by omega)⟩
theorem VQ {q s b:Int} (h:lev q s b) (hb:b≠0):(2:Int)<=2^(s.toNat+1)/\(2:Int)^(s.toNat+1)<=65536/\(3:Int)<=2^b.toNat-1/\(2:Int)^b.toNat-1<=65535/\0<=q/\q<2^b.toNat-1:=by
 obtain ⟨⟨s0,s1,hw⟩,q0,_,hq⟩:=h
 have h1:=YF s0 s1
 have h2:=Vi (b:=b) (by omega) (by omega)
 have h3:(2:Int)^2<=2^b.toNat:=Kk (by omega)
 have h4:(2:Int)^2=4:=rfl
 exact ⟨h1.1,h1.2,by omega,h2.2,q0,hq (by omega)⟩
theorem Y2 {q s b:Int} (h:lev q s b):vc (lvv q s b):=by
 unfold lvv
 by_cases hb:b=0
 ·rw [if_pos hb]; exact ⟨by decide,by decide⟩
 ·rw [if_neg hb]
  obtain ⟨r1,r2,e1,e2,q0,q1⟩:=VQ h hb
  obtain ⟨_,_,h3,h4⟩:=V1 r1 r2 e1 e2 q0 q1
  exact ⟨by omega,by omega⟩
theorem ux {q s b:Int} (h:lev q s b):Ok (fun r=>r.1=lvv q s b) (kQ 5000 q s b):=by
 obtain ⟨⟨s0,s1,hb⟩,q0,hz,hq⟩:=id h
 have hl:=Kc (w:=b) (by omega) (by omega)
 refine Ok.bind (Q:=fun r=>r=true) ((Q1 s b).mono (fun r hr=>hr.2 ⟨s0,s1,hb⟩)) ?_
 rintro _ rfl
 refine Ok.bind (Q:=fun x=>x=false) ?_ ?_
 ·refine Ok.ite (fun c=>by cases c) (fun _=>Ok.ite (fun c=>by have:=dt c; omega) (fun _=>Ok.ite (fun c=>?_) (fun _=>Ok.gd (fun _=>by omega) (Ok.some ?_))))
  ·exfalso
   by_cases e:b=0
   ·rw [hz e,e] at c; cases c
   ·rw [show (b==0)=false by simpa using e] at c; cases c
  ·show (bif decide (b>0) then decide (q>=wb .i64 (kshl .i64 1 b-1)) else false)=false
   by_cases e:b>0
   ·rw [decide_eq_true e,hl]
    exact decide_eq_false (by have:=hq e; omega)
   ·rw [decide_eq_false e]; rfl
 ·rintro _ rfl
  refine Ok.ite (fun c=>by cases c) (fun _=>Ok.ite (fun c=>Ok.some ?_) (fun c=>?_))
  ·show (0:Int)=lvv q s b
   unfold lvv; rw [if_pos (by simpa using c)]
  ·have c:b≠0:=by simpa using c
   obtain ⟨r1,r2,e1,e2,_,q1⟩:=VQ h c
   obtain ⟨h1,h2,h3,h4⟩:=V1 r1 r2 e1 e2 q0 q1
   refine Ok.gd s0 (Ok.gd (by omega) (Ok.gd (by rw [hl]; omega) (Ok.some ?_)))
   show wb .i32 (wb .i64 (wb .i64 (Int.tdiv (wb .i64 (wb .i64 (wb .i64 (2*q)+1)*kshl .i64 2 s)) (wb .i64 (kshl .i64 1 b-1)))-kshl .i64 2 s))=lvv q s b
   rw [hl,JA s0 s1,zY (x:=2*q) (by omega) (by omega),zY (x:=2*q+1) (by omega) (by omega),zY (x:=(2*q+1)*2^(s.toNat+1)) (by omega) (by omega),Int.tdiv_eq_ediv_of_nonneg h1,zY (x:=(2*q+1)*2^(s.toNat+1)/(2^b.toNat-1)) (by omega) (by omega),zY (by omega) (by omega),yH (by omega) (by omega)]
   unfold lvv; rw [if_neg c]
theorem Vs {q s b:Int} (h:lev q s b):Ok (fun r=>r.1=lvv q s b) (qq 5000 q s b):=by
 obtain ⟨⟨s0,s1,hb⟩,q0,hz,hq⟩:=id h
 refine Ok.bind (Q:=fun r=>r=true) ((Z4 s b).mono (fun r hr=>hr.2 ⟨s0,s1,hb⟩)) ?_
 rintro _ rfl
 refine Ok.ite (fun c=>?_) (fun _=>Ok.ite (fun c=>Ok.ite (fun d=>?_) (fun _=>Ok.some ?_)) (fun c=>?_))
 ·rcases Wy c with c | c
  ·cases c
  ·have:=dt c; omega
 ·exact absurd (hz (by simpa using c)) (xT d)
 ·show (0:Int)=lvv q s b
  unfold lvv; rw [if_pos (by simpa using c)]
 ·have c:b≠0:=by simpa using c
  obtain ⟨r1,r2,e1,e2,_,q1⟩:=VQ h c
  obtain ⟨h1,h2,h3,h4⟩:=V1 r1 r2 e1 e2 q0 q1
  refine Ok.bind (Wk (n:=b) (by omega) (by omega)) ?_
  rintro _ rfl
  dsimp only
  rw [zY (x:=2^b.toNat-1) (by omega) (by omega)]
  refine Ok.ite (fun d=>by have:=dt d; omega) (fun _=>?_)
  rw [kw1 (x:=s) (by omega) (by omega)]
  refine Ok.bind (Wk (n:=s+1) (by omega) (by omega)) ?_
  rintro _ rfl
  rw [show (s+1).toNat=s.toNat+1 by omega,zY (x:=2*q) (by omega) (by omega),zY (x:=2*q+1) (by omega) (by omega),zY (x:=(2*q+1)*2^(s.toNat+1)) (by omega) (by omega)]
  refine Ok.bind (Ok.is (Wm (by omega) (by omega) (by omega) (by omega))) ?_
  rintro _ rfl
  refine Ok.some ?_
  show wb .i32 (wb .i64 ((2*q+1)*2^(s.toNat+1)/(2^b.toNat-1)-2^(s.toNat+1)))=lvv q s b
  rw [zY (by omega) (by omega),yH (by omega) (by omega)]
  unfold lvv; rw [if_neg c]
end Go.Fo
