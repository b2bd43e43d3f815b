/- Joins,quants,planes with middle and side in the place of what is joined: number by number. -/
import Derived.Test.YtiihmaaobmpababGreatSaVb
namespace Go.Fo
set_option maxRecDepth 6000
abbrev celf (P:List (List Int)) (i b:Int):Int:=at' (row P i) b
theorem Pw.self {M B:Int} {P:List (List Int)} (h:Sh M B P):Pw M B P (celf P):=⟨h.1,fun i i0 i1=>⟨h.2 i i0 i1,fun _ _ _=>rfl⟩⟩
theorem Rgs.mid {M B:Int} {P R:List (List Int)} (gP:Rgs M B P) (gR:Rgs M B R):Rgf M B (midf P R):=fun i b i0 i1 b0 b1=>by
 obtain ⟨a1,a2⟩:=gP i b i0 i1 b0 b1
 obtain ⟨c1,c2⟩:=gR i b i0 i1 b0 b1
 show -2147483648<=(at' (row P i) b+at' (row R i) b)/2/\(at' (row P i) b+at' (row R i) b)/2<=2147483647
 omega
theorem Rgs.sid {M B:Int} {P R:List (List Int)} (gP:Rgs M B P) (gR:Rgs M B R):Rgf M B (sidf P R):=fun i b i0 i1 b0 b1=>by
 obtain ⟨a1,a2⟩:=gP i b i0 i1 b0 b1
 obtain ⟨c1,c2⟩:=gR i b i0 i1 b0 b1
 show -2147483648<=(at' (row P i) b-at' (row R i) b)/2/\(at' (row P i) b-at' (row R i) b)/2<=2147483647
 omega
theorem XV (v:Int):∀ (n:Nat) (s:Int),0<=s->s+n<=15->0<=sclr v n s/\sclr v n s<=15
 | 0,s,h,k=>by show 0<=s/\s<=15; omega
 | n+1,s,h,k=>by
  show 0<=(if 2^(s.toNat+1)<=v then sclr v n (s+1) else s)/\(if 2^(s.toNat+1)<=v then sclr v n (s+1) else s)<=15
  split
  ·exact XV v n (s+1) (by omega) (by omega)
  ·omega
theorem um (v:Int):0<=sclv v/\sclv v<=15:=XV v 15 0 (by decide) (by decide)
theorem yL (f:Int->Int->Int) (M b:Int):0<=scf f M b/\scf f M b<=15:=um _
def jnf (P R:List (List Int)) (M B b:Int):Bool:=if b+1<B then decide (scf (celf P) M b+scf (celf R) M b>scf (midf P R) M b+scf (sidf P R) M b) else false
def Pb (B:Int) (l:List Bool) (g:Int->Bool):Prop:=(l.length:Int)=B/\∀ q,0<=q->q<B->atB l q=g q
theorem uf {l:List Bool} {v:Bool} {q:Int} (hq:0<=q) (hX:q<=(l.length:Int)):atB (l++[v]) q=if q=(l.length:Int) then v else atB l q:=by
 show (l++[v]).getD q.toNat false=if q=(l.length:Int) then v else l.getD q.toNat false
 rw [List.getD_eq_getElem?_getD,List.getD_eq_getElem?_getD]
 by_cases e:q=(l.length:Int)
 ·rw [if_pos e,List.getElem?_append_right (by omega),show q.toNat-l.length=0 by omega]; rfl
 ·rw [if_neg e,List.getElem?_append_left (by omega)]
theorem UR {M B:Int} {P R:List (List Int)} (hP:Sh M B P) (hR:Sh M B R) (hM:1<=M) (hM2:M<=100) (hB:1<=B) (hB2:B<=8) (gP:Rgs M B P) (gR:Rgs M B R):Ok (fun r=>Pb B r.1 (jnf P R M B)/\r.2=0) (qP 5000 P R):=by
 refine Ok.bind (VF hP hR hM hM2 hB hB2 gP gR) ?_
 rintro ⟨X,Y,e⟩ ⟨hX,hY,he⟩
 have he:e=0:=he
 subst he
 refine Ok.ite (fun h=>by cases h) (fun _=>Ok.bind (Q:=fun r=>Pv B r.1 (scf (celf P) M)/\Pv B r.2.1 (scf (celf R) M)/\Pv B r.2.2.1 (scf (midf P R) M)/\Pv B r.2.2.2 (scf (sidf P R) M)) ?_ ?_)
 ·refine Ok.bind (y8 (Pw.self hP) gP hM hM2 hB hB2) (fun r1 h1=>Ok.bind (y8 (Pw.self hR) gR hM hM2 hB hB2) (fun r2 h2=>Ok.bind (y8 hX (Rgs.mid gP gR) hM hM2 hB hB2) (fun r3 h3=>Ok.bind (y8 hY (Rgs.sid gP gR) hM hM2 hB hB2) (fun r4 h4=>?_))))
  exact Ok.some ⟨h1.1,h2.1,h3.1,h4.1⟩
 ·rintro ⟨a,b,c,d⟩ ⟨h1,h2,h3,h4⟩
  have a1:(a.length:Int)=B:=h1.1
  have a2:(b.length:Int)=B:=h2.1
  have a3:(c.length:Int)=B:=h3.1
  have a4:(d.length:Int)=B:=h4.1
  have hl:((List.replicate (Int.toNat (a.length:Int)) (false:Bool)).length:Int)=B:=by simp; omega
  have ek:wb .i64 (((List.replicate (Int.toNat (a.length:Int)) (false:Bool)).length:Int)-1)=B-1:=by rw [hl]; exact zY (by omega) (by omega)
  refine Ok.gd ⟨by omega,by omega,by omega⟩ ?_
  dsimp only
  rw [ek]
  refine Ok.gd ⟨by omega,by omega,fun h0=>by rw [h0] at hl; simp at hl; omega⟩ ?_
  rw [Int.toNat_of_nonneg (by omega)]
  refine Ok.bind (Q:=fun r=>Pb B r (jnf P R M B)) ?_ (fun r hr=>Ok.some ⟨hr,rfl⟩)
  unfold qP.l0
  refine wA (fun i y=>0<=i/\i<=B-1/\(y.length:Int)=B/\∀ q,0<=q->q<B->atB y q=if q<i then jnf P R M B q else false) (fun i _=>(B-1-i).toNat) _ ?_ 5000 _ _ ⟨by omega,by omega,hl,fun q q0 q1=>?_⟩ (by omega)
  ·rintro next i y ⟨g1,g2,g3,g4⟩ ih
   refine Ok.ite (fun dd=>?_) (fun dd=>Ok.some ⟨g3,fun q q0 q1=>?_⟩)
   ·have dd:=dt dd
    refine Ok.gd ⟨g1,by omega⟩ (Ok.gd ⟨g1,by omega⟩ (Ok.gd ⟨g1,by omega⟩ (Ok.gd ⟨g1,by omega⟩ (Ok.gd ⟨g1,by omega⟩ (Ok.gd (by omega) ?_)))))
    have e:=kw1 (x:=i) (by omega) (by omega)
    have q1:=yL (celf P) M i; have q2:=yL (celf R) M i; have q3:=yL (midf P R) M i; have q4:=yL (sidf P R) M i
    have e1:at' a i=scf (celf P) M i:=h1.2 i g1 (by omega)
    have e2:at' b i=scf (celf R) M i:=h2.2 i g1 (by omega)
    have e3:at' c i=scf (midf P R) M i:=h3.2 i g1 (by omega)
    have e4:at' d i=scf (sidf P R) M i:=h4.2 i g1 (by omega)
    show Ok _ (next (wb .i64 (i+1)) (y.set i.toNat (decide (wb .i64 (at' a i+at' b i)>wb .i64 (at' c i+at' d i)))))
    rw [e,e1,e2,e3,e4,zY (x:=scf (celf P) M i+scf (celf R) M i) (by omega) (by omega),zY (x:=scf (midf P R) M i+scf (sidf P R) M i) (by omega) (by omega)]
    refine ih _ _ ⟨by omega,by omega,by rw [List.length_set]; exact g3,fun q q0 q1=>?_⟩ (by omega)
    rw [XS g1 (by omega) q0]
    by_cases cq:q=i
    ·rw [if_pos cq,if_pos (by omega),cq]
     unfold jnf
     rw [if_pos (by omega)]
    ·rw [if_neg cq,g4 q q0 q1]
     by_cases c2:q<i
     ·rw [if_pos c2,if_pos (by omega)]
     ·rw [if_neg c2,if_neg (by omega)]
   ·have dd:=df dd
    rw [g4 q q0 q1]
    by_cases c2:q<i
    ·rw [if_pos c2]
    ·rw [if_neg c2]
     unfold jnf
     rw [if_neg (by omega)]
  ·rw [if_neg (by omega)]
   show (List.replicate _ false).getD _ false=false
   rw [List.getD_eq_getElem?_getD,List.getElem?_replicate]; split<;>rfl
theorem YT {M B:Int} {P R:List (List Int)} (hP:Sh M B P) (hR:Sh M B R) (hM:1<=M) (hM2:M<=100) (hB:1<=B) (hB2:B<=8) (gP:Rgs M B P) (gR:Rgs M B R):Ok (fun r=>Pb B r (jnf P R M B)) (z8 5000 P R):=by
 refine Ok.bind (XC hP hR hM2 (by omega) hB2 gP gR) ?_
 rintro ⟨X,Y⟩ ⟨hX,hY⟩
 refine Ok.bind (vo (Pw.self hP) gP hM hM2 hB hB2) (fun a h1=>Ok.bind (vo (Pw.self hR) gR hM hM2 hB hB2) (fun b h2=>Ok.bind (vo hX (Rgs.mid gP gR) hM hM2 hB hB2) (fun c h3=>Ok.bind (vo hY (Rgs.sid gP gR) hM hM2 hB hB2) (fun d h4=>?_))))
 have a1:(a.length:Int)=B:=h1.1
 have a2:(b.length:Int)=B:=h2.1
 have a3:(c.length:Int)=B:=h3.1
 have a4:(d.length:Int)=B:=h4.1
 refine Ok.bind (Q:=fun r=>Pb B r (jnf P R M B)) ?_ (fun r hr=>Ok.some hr)
 unfold z8.l0
 refine wA (fun i y=>0<=i/\i<=B/\Pb i y (jnf P R M B)) (fun i _=>(B-i).toNat) _ ?_ 5000 _ _ ⟨by omega,by omega,rfl,fun q _ _=>by omega⟩ (by omega)
 rintro next i y ⟨g1,g2,g3,g4⟩ ih
 refine Ok.ite (fun dd=>?_) (fun dd=>Ok.some (by have:=df dd; rw [show B=i by omega]; rw [show i=B by omega] at g3 g4 ⊢; exact ⟨g3,g4⟩))
 have dd:=dt dd
 have e:=kw1 (x:=i) (by omega) (by omega)
 dsimp only
 rw [e]
 refine Ok.gd ⟨fun _=>g1,fun _=>dd⟩ (Ok.gd ⟨fun _=>g1,fun _=>by omega⟩ (Ok.gd ⟨fun _=>g1,fun _=>by omega⟩ (Ok.gd ⟨fun _=>g1,fun _=>by omega⟩ (Ok.gd (by show ((y.length:Int)+1)*1<=_; omega) ?_))))
 have q1:=yL (celf P) M i; have q2:=yL (celf R) M i; have q3:=yL (midf P R) M i; have q4:=yL (sidf P R) M i
 have e1:at' a i=scf (celf P) M i:=h1.2 i g1 (by omega)
 have e2:at' b i=scf (celf R) M i:=h2.2 i g1 (by omega)
 have e3:at' c i=scf (midf P R) M i:=h3.2 i g1 (by omega)
 have e4:at' d i=scf (sidf P R) M i:=h4.2 i g1 (by omega)
 have ev:(bif decide (i+1<(a.length:Int)) then decide (wb .i64 (at' a i+at' b i)>wb .i64 (at' c i+at' d i)) else false)=jnf P R M B i:=by
  rw [e1,e2,e3,e4,zY (x:=scf (celf P) M i+scf (celf R) M i) (by omega) (by omega),zY (x:=scf (midf P R) M i+scf (sidf P R) M i) (by omega) (by omega),a1]
  unfold jnf
  by_cases c1:i+1<B
  ·rw [if_pos c1,decide_eq_true c1]; rfl
  ·rw [if_neg c1,decide_eq_false c1]; rfl
 show Ok _ (next (i+1) (y++[bif decide (i+1<(a.length:Int)) then decide (wb .i64 (at' a i+at' b i)>wb .i64 (at' c i+at' d i)) else false]))
 rw [ev]
 refine ih _ _ ⟨by omega,by omega,by rw [List.length_append]; show (((y.length+1:Nat)):Int)=_; omega,fun q q0 q1=>?_⟩ (by omega)
 rw [uf q0 (by omega)]
 by_cases cq:q=(y.length:Int)
 ·rw [if_pos cq,cq,g3]
 ·rw [if_neg cq]; exact g4 q q0 (by omega)
theorem ZK {J:List Int} (hJ:J.length<=4000):Ok (fun r=>r=true↔∃ i,0<=i/\i<(J.length:Int)/\at' J i=1) (qk 5000 1 J):=by
 refine Ok.bind (Q:=fun r=>r>=0↔∃ i,0<=i/\i<(J.length:Int)/\at' J i=1) ?_ (fun r hr=>Ok.some (by rw [<-hr,decide_eq_true_iff]))
 refine Ok.bind (Q:=fun z=>match z with | .inl _=>¬ ∃ i,0<=i/\i<(J.length:Int)/\at' J i=1 | .inr x=>0<=x/\∃ i,0<=i/\i<(J.length:Int)/\at' J i=1) ?_ ?_
 ·unfold zJ.l0
  refine w5 (fun i=>0<=i/\i<=(J.length:Int)/\∀ q,0<=q->q<i->at' J q≠1) (fun i=>((J.length:Int)-i).toNat) _ ?_ 5000 _ ⟨by omega,by omega,fun q _ _=>by omega⟩ (by omega)
  rintro next i ⟨g1,g2,g3⟩ ih
  refine Ok.ite (fun d=>?_) (fun d=>Ok.some (fun ⟨q,q0,q1,hq⟩=>g3 q q0 (by have:=df d; omega) hq))
  have d:=dt d
  refine Ok.gd ⟨g1,d,by omega⟩ (Ok.ite (fun c=>Ok.some ⟨g1,i,g1,d,?_⟩) (fun c=>?_))
  ·have c:1=at' J i:=by simpa using c
   exact c.symm
  ·have c:¬ 1=at' J i:=by simpa using c
   have e:=kw1 (x:=i) (by omega) (by omega)
   refine ih _ ⟨by omega,by omega,fun q q0 q1=>?_⟩ (by omega)
   by_cases e2:q=i
   ·rw [e2]; exact fun h=>c h.symm
   ·exact g3 q q0 (by omega)
 ·intro z hz
  cases z with
  | inl u=>exact Ok.some ⟨fun h=>by omega,fun h=>absurd h hz⟩
  | inr i=>exact Ok.some ⟨fun _=>hz.2,fun _=>hz.1⟩
theorem XW {M B:Int} {P:List (List Int)} (hP:Sh M B P) (hM:1<=M) (hM2:M<=100) (hB:1<=B) (hB2:B<=8):Ok (fun r=>r=P) (zO 5000 P):=by
 obtain ⟨h1,h2⟩:=hP
 refine Ok.gd ⟨by omega,by omega,by omega⟩ (Ok.bind (Q:=fun r=>Pw M B r (celf P)) ?_ (fun r hr=>Ok.some (hr.eq (Pw.self ⟨h1,h2⟩))))
 rw [show Int.toNat (P.length:Int)=M.toNat by omega]
 unfold zO.l0
 refine wA (fun i X=>0<=i/\i<=M/\(X.length:Int)=M/\∀ q,0<=q->q<i->row X q=row P q) (fun i _=>(M-i).toNat) _ ?_ 5000 _ _ ⟨by omega,by omega,by simp; omega,fun q _ _=>by omega⟩ (by omega)
 rintro next i X ⟨g1,g2,g3,g4⟩ ih
 refine Ok.ite (fun d=>?_) (fun d=>?_)
 ·have d:=dt d
  have hr:=h2 i g1 (by omega)
  refine Ok.gd ⟨g1,d⟩ (Ok.bind (Q:=fun r=>r=row P i) (Ok.gd (fun q=>?_) (Ok.gd ?_ (Ok.some rfl))) ?_)
  ·have q:row P i=[]:=q
   rw [q] at hr; simp at hr; omega
  ·show ((0:Int)+((row P i).length:Int))*4<=_
   omega
  rintro _ rfl
  refine Ok.gd ⟨g1,by omega,by omega⟩ ?_
  have e:wb .i64 (i+1)=i+1:=kw1 (by omega) (by omega)
  dsimp only
  rw [e]
  refine ih _ _ ⟨by omega,by omega,by rw [List.length_set]; exact g3,fun q q0 q1=>?_⟩ (by omega)
  rw [yQ g1 (by omega) q0]
  by_cases e2:q=i
  ·rw [if_pos e2,e2]
  ·rw [if_neg e2]; exact g4 q q0 (by omega)
 ·have:i=M:=by have:=df d; omega
  subst this
  refine Ok.some ⟨g3,fun q q0 q1=>?_⟩
  rw [g4 q q0 q1]
  exact ⟨h2 q q0 q1,fun _ _ _=>rfl⟩
theorem Pw.set {M B i b v:Int} {X:List (List Int)} {f g:Int->Int->Int} (h:Pw M B X f) (hi:0<=i) (hM:i<M) (hb:0<=b) (hb2:b<B) (he:∀ q k,0<=q->q<M->0<=k->k<B->g q k=if q=i/\k=b then v else f q k):Pw M B (X.set i.toNat ((X.getD i.toNat []).set b.toNat v)) g:=by
 have h1:=h.1
 refine ⟨by rw [List.length_set]; exact h1,fun q q0 q1=>?_⟩
 rw [yQ hi (by omega) q0]
 have hq:=h.2 q q0 q1
 have hrow:row X i=X.getD i.toNat []:=rfl
 by_cases e:q=i
 ·rw [if_pos e]
  subst e
  refine ⟨by rw [List.length_set]; exact hq.1,fun k k0 k1=>?_⟩
  rw [<-hrow,vO hb (by have:=hq.1; omega) k0,he q k q0 q1 k0 k1,hq.2 k k0 k1]
  by_cases e2:k=b
  ·rw [if_pos e2,if_pos ⟨rfl,e2⟩]
  ·rw [if_neg e2,if_neg (fun h=>e2 h.2)]
 ·rw [if_neg e]
  exact hq.cg (fun k k0 k1=>by rw [he q k q0 q1 k0 k1,if_neg (fun h=>e h.1)])
theorem J7 {M B b:Int} {x y X Y:List (List Int)} {f g u w:Int->Int->Int} (hx:Pw M B x u) (hy:Pw M B y w) (hX:Pw M B X f) (hY:Pw M B Y g) (hM2:M<=100) (hM:0<=M) (hb:0<=b) (hb2:b<B) :
  Ok (fun r=>Pw M B r.1 (fun q k=>if k=b then u q k else f q k)/\Pw M B r.2 (fun q k=>if k=b then w q k else g q k)) (wO 5000 b x y X Y):=by
 refine Ok.bind (Q:=fun r=>Pw M B r.1 (fun q k=>if k=b then u q k else f q k)/\Pw M B r.2 (fun q k=>if k=b then w q k else g q k)) ?_ (fun r hr=>Ok.some hr)
 have hx1:=hx.1
 have hy1:=hy.1
 unfold wO.l0
 refine ql (fun i X Y=>0<=i/\i<=M/\Pw M B X (fun q k=>if q<i/\k=b then u q k else f q k)/\Pw M B Y (fun q k=>if q<i/\k=b then w q k else g q k)) (fun i _ _=>(M-i).toNat) _ ?_ 5000 _ _ _ ⟨by omega,by omega,hX.cg (fun q k q0 q1 k0 k1=>by rw [if_neg (by omega)]),hY.cg (fun q k q0 q1 k0 k1=>by rw [if_neg (by omega)])⟩ (by omega)
 rintro next i X Y ⟨g1,g2,g3,g4⟩ ih
 refine Ok.ite (fun d=>?_) (fun d=>?_)
 ·have d:=dt d
  have a1:=g3.1
  have a2:=g4.1
  have a3:((X.getD i.toNat []).length:Int)=B:=(g3.2 i g1 (by omega)).1
  have a4:((Y.getD i.toNat []).length:Int)=B:=(g4.2 i g1 (by omega)).1
  have a5:((Kd.nth (.slice (.int .i32)) x (Int.toNat i)).length:Int)=B:=(hx.2 i g1 (by omega)).1
  have a6:((Kd.nth (.slice (.int .i32)) y (Int.toNat i)).length:Int)=B:=(hy.2 i g1 (by omega)).1
  refine Ok.gd ⟨g1,by omega⟩ (Ok.gd (by omega) (Ok.gd ⟨g1,by omega⟩ (Ok.gd (by omega) (Ok.gd ⟨g1,by omega⟩ (Ok.gd ⟨hb,by omega⟩ (Ok.gd ⟨g1,by omega⟩ (Ok.gd ⟨hb,by omega⟩ (Ok.gd ⟨hb,by omega⟩ (Ok.gd (by omega) (Ok.gd ⟨hb,by omega⟩ (Ok.gd (by omega) ?_)))))))))))
  have e:wb .i64 (i+1)=i+1:=kw1 (by omega) (by omega)
  have v1:at' (row x i) b=u i b:=(hx.2 i g1 (by omega)).2 b hb hb2
  have v2:at' (row y i) b=w i b:=(hy.2 i g1 (by omega)).2 b hb hb2
  show Ok _ (next (wb .i64 (i+1)) (X.set i.toNat ((X.getD i.toNat []).set b.toNat (at' (row x i) b))) (Y.set i.toNat ((Y.getD i.toNat []).set b.toNat (at' (row y i) b))))
  rw [e,v1,v2]
  refine ih _ _ _ ⟨by omega,by omega,g3.set g1 (by omega) hb hb2 (fun q k q0 q1 k0 k1=>?_),g4.set g1 (by omega) hb hb2 (fun q k q0 q1 k0 k1=>?_)⟩ (by omega)
  ·by_cases c:q=i/\k=b
   ·rw [if_pos c,if_pos ⟨by omega,c.2⟩,c.1,c.2]
   ·rw [if_neg c]
    by_cases c2:q<i/\k=b
    ·rw [if_pos c2,if_pos ⟨by omega,c2.2⟩]
    ·rw [if_neg c2,if_neg (by omega)]
  ·by_cases c:q=i/\k=b
   ·rw [if_pos c,if_pos ⟨by omega,c.2⟩,c.1,c.2]
   ·rw [if_neg c]
    by_cases c2:q<i/\k=b
    ·rw [if_pos c2,if_pos ⟨by omega,c2.2⟩]
    ·rw [if_neg c2,if_neg (by omega)]
 ·have d:=df d
  refine Ok.some ⟨g3.cg (fun q k q0 q1 k0 k1=>?_),g4.cg (fun q k q0 q1 k0 k1=>?_)⟩
  ·by_cases c:k=b
   ·rw [if_pos ⟨by omega,c⟩,if_pos c]
   ·rw [if_neg (fun h=>c h.2),if_neg c]
  ·by_cases c:k=b
   ·rw [if_pos ⟨by omega,c⟩,if_pos c]
   ·rw [if_neg (fun h=>c h.2),if_neg c]
end Go.Fo
