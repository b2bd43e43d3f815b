/- Scales and joins,number by number: what the program and what the document tell. -/
import Derived.Test.YtiihmaaobmpababGreatSaVa
namespace Go.Fo
set_option maxRecDepth 6000
def sclr (x:Int):Nat->Int->Int
  | 0,s=>s
  | n+1,s=>if 2^(s.toNat+1)<=x then sclr x n (s+1) else s
def sclv (x:Int):Int:=sclr x 15 0
theorem GB:((List.range 16).all fun w=>kshl .i64 2 (w:Int)==2^(w+1))=true:=by kernel_rfl
theorem JA {w:Int} (h0:0<=w) (h1:w<=15):kshl .i64 2 w=2^(w.toNat+1):=by
 have:=List.all_eq_true.1 GB w.toNat (List.mem_range.2 (by omega))
 rw [Int.toNat_of_nonneg h0] at this
 exact beq_iff_eq.1 this
theorem ga:((List.range 21).all fun w=>wb .i64 ((2:Int)^w*2)==2^(w+1))=true:=by kernel_rfl
theorem Kf {v i:Int} (h0:0<=i) (h1:i<15) (h:2^(i.toNat+1)<=v):sclr v (15-i).toNat i=sclr v (15-(i+1)).toNat (i+1):=by
 rw [show (15-i).toNat=(15-(i+1)).toNat+1 by omega]
 show (if 2^(i.toNat+1)<=v then _ else _)=_
 rw [if_pos h]
theorem Kw {v i:Int} (h0:0<=i) (h1:i<15) (h:¬ 2^(i.toNat+1)<=v):sclr v (15-i).toNat i=i:=by
 rw [show (15-i).toNat=(15-(i+1)).toNat+1 by omega]
 show (if 2^(i.toNat+1)<=v then _ else _)=_
 rw [if_neg h]
theorem UC (v:Int):Ok (fun r=>r=sclv v) (kk 5000 v):=by
 refine Ok.bind (Q:=fun r=>r=sclv v) ?_ (fun r hr=>Ok.some hr)
 unfold kk.l0
 refine w5 (fun i=>0<=i/\i<=15/\sclr v (15-i).toNat i=sclv v) (fun i=>(15-i).toNat) _ ?_ 5000 _ ⟨by omega,by omega,rfl⟩ (by omega)
 rintro next i ⟨g1,g2,g3⟩ ih
 have e2:=JA g1 g2
 refine Ok.gd (fun _=>g1) (Ok.ite (fun d=>?_) (fun d=>?_))
 ·have h1:i<15:=by
   cases h:decide (i<15)
   ·rw [h] at d; cases d
   ·exact dt h
  rw [decide_eq_true h1] at d
  have h2:kshl .i64 2 i<=v:=dt d
  rw [e2] at h2
  have e:=kw1 (x:=i) (by omega) (by omega)
  refine ih _ ⟨by omega,by omega,?_⟩ (by omega)
  rw [e,<-g3,Kf g1 h1 h2]
 ·refine Ok.some ?_
  rw [<-g3]
  by_cases h1:i<15
  ·rw [decide_eq_true h1] at d
   have h2:¬ kshl .i64 2 i<=v:=df d
   rw [e2] at h2
   rw [Kw g1 h1 h2]
  ·rw [show (15-i).toNat=0 by omega]; rfl
theorem Wk {n:Int} (h0:0<=n) (h1:n<=20):Ok (fun r=>r=2^n.toNat) (wK 5000 n):=by
 refine Ok.bind (Q:=fun r=>r=2^n.toNat) ?_ (fun r hr=>Ok.some hr)
 unfold wK.l0
 refine wA (fun a b=>0<=b/\b<=n/\a=2^b.toNat) (fun _ b=>(n-b).toNat) _ ?_ 5000 _ _ ⟨by omega,by omega,rfl⟩ (by omega)
 rintro next a b ⟨g1,g2,rfl⟩ ih
 refine Ok.ite (fun d=>?_) (fun d=>Ok.some (by have:=df d; rw [show b=n by omega]))
 have d:=dt d
 have e:=kw1 (x:=b) (by omega) (by omega)
 have e2:=beq_iff_eq.1 (List.all_eq_true.1 ga b.toNat (List.mem_range.2 (by omega)))
 dsimp only
 rw [e,e2]
 exact ih _ _ ⟨by omega,by omega,by rw [show (b+1).toNat=b.toNat+1 by omega]⟩ (by omega)
theorem Ki (v:Int):Ok (fun r=>r=sclv v) (zw 5000 v):=by
 refine Ok.bind (Q:=fun z=>match z with | .inl _=>sclv v=15 | .inr r=>r=sclv v) ?_ ?_
 ·unfold zw.l0
  refine w5 (fun i=>0<=i/\i<=15/\sclr v (15-i).toNat i=sclv v) (fun i=>(15-i).toNat) _ ?_ 5000 _ ⟨by omega,by omega,rfl⟩ (by omega)
  rintro next i ⟨g1,g2,g3⟩ ih
  refine Ok.ite (fun d=>?_) (fun d=>Ok.some ?_)
  ·have d:=dt d
   have e:=kw1 (x:=i) (by omega) (by omega)
   dsimp only
   rw [e]
   refine Ok.bind (Wk (n:=i+1) (by omega) (by omega)) ?_
   rintro _ rfl
   rw [show (i+1).toNat=i.toNat+1 by omega]
   refine Ok.ite (fun c=>Ok.some ?_) (fun c=>ih _ ⟨by omega,by omega,?_⟩ (by omega))
   ·have c:=dt c
    show i=sclv v
    rw [<-g3,Kw g1 d (by omega)]
   ·have c:=df c
    rw [<-g3,Kf g1 d (by omega)]
  ·have d:=df d
   show sclv v=15
   rw [<-g3,show (15-i).toNat=0 by omega]
   show i=15
   omega
 ·intro z hz
  cases z with
  | inl u=>exact Ok.some (show (15:Int)=sclv v from (show sclv v=15 from hz).symm)
  | inr r=>exact Ok.some hz
def mxr (f:Int->Int):Nat->Int
  | 0=>0
  | i+1=>imax (imax (mxr f i) (f (i:Int))) (0-f (i:Int))
theorem J3 (f:Int->Int):∀ n,0<=mxr f n
 | 0=>Int.le_refl 0
 | n+1=>by
  have:=J3 f n
  show 0<=imax (imax (mxr f n) (f n)) (0-f n)
  unfold imax; split<;>split<;>omega
theorem Y8 {e x:Int} (h:0<=e):(if (if x<0 then 0-x else x)>e then (if x<0 then 0-x else x) else e)=imax (imax e x) (0-x):=by
 unfold imax; repeat' split
 all_goals omega
abbrev scf (f:Int->Int->Int) (M b:Int):Int:=sclv (mxr (fun i=>f i b) M.toNat)
def Rgf (M B:Int) (f:Int->Int->Int):Prop:=∀ i b,0<=i->i<M->0<=b->b<B->vc (f i b)
theorem y8 {M B:Int} {P:List (List Int)} {f:Int->Int->Int} (hPw:Pw M B P f) (hf:Rgf M B f) (hM:1<=M) (hM2:M<=100) (hB:1<=B) (hB2:B<=8):Ok (fun r=>Pv B r.1 (scf f M)/\r.2=0) (wP 5000 P):=by
 have hP:=hPw.sh
 have hP1:=hP.1
 refine Ok.bind (jF hP hM hM2 hB hB2) ?_
 intro r hr
 rw [show r=B from hr]
 refine Ok.ite (fun c=>by simp at c; omega) (fun _=>Ok.gd ⟨by omega,by omega,by omega⟩ (Ok.bind (Q:=fun l=>Pv B l (fun b=>mxr (fun i=>f i b) M.toNat)) ?_ ?_))
 ·have hrep:((List.replicate (Int.toNat B) (0:Int)).length:Int)=B:=by simp; omega
  unfold wP.l1
  refine wA (fun i l=>0<=i/\i<=M/\Pv B l (fun b=>mxr (fun q=>f q b) i.toNat)) (fun i _=>(M-i).toNat) _ ?_ 5000 _ _ ⟨by omega,by omega,hrep,fun k _ _=>yO _ _⟩ (by omega)
  rintro next i l ⟨g1,g2,g3⟩ ih
  refine Ok.ite (fun d=>?_) (fun d=>Ok.some (by have:=df d; rw [show i=M by omega] at g3; exact g3))
  have d:=dt d
  have hr:=hPw.2 i g1 (by omega)
  refine Ok.gd ⟨g1,d⟩ (Ok.bind (Q:=fun l=>Pv B l (fun b=>mxr (fun q=>f q b) (i.toNat+1))) ?_ ?_)
  ·unfold wP.l2
   refine wA (fun b l=>0<=b/\b<=B/\Pv B l (fun k=>mxr (fun q=>f q k) (if k<b then i.toNat+1 else i.toNat))) (fun b _=>(B-b).toNat) _ ?_ 5000 _ _ ⟨by omega,by omega,g3.cg (fun k k0 k1=>by rw [if_neg (by omega)])⟩ (by omega)
   rintro next2 b l ⟨f1,f2,f3⟩ ih2
   have hl:=f3.1
   refine Ok.ite (fun d2=>?_) (fun d2=>?_)
   ·have d2:b<((row P i).length:Int):=dt d2
    have hb:b<B:=by have:=hr.1; omega
    obtain ⟨a1,a2⟩:=hf i b g1 (by omega) f1 hb
    refine Ok.gd ⟨f1,d2⟩ (Ok.gd ⟨f1,by omega,by omega,f1,by omega,by omega⟩ ?_)
    have e:=kw1 (x:=b) (by omega) (by omega)
    have ex:at' (row P i) b=f i b:=hr.2 b f1 hb
    have eb:at' l b=mxr (fun q=>f q b) (if b<b then i.toNat+1 else i.toNat):=f3.2 b f1 hb
    rw [if_neg (by omega)] at eb
    have ke:wb .i64 (at' (row P i) b)=f i b:=by rw [ex]; exact zY (by omega) (by omega)
    have km:wb .i64 (0-f i b)=0-f i b:=zY (by omega) (by omega)
    show Ok _ (next2 (wb .i64 (b+1)) (l.set b.toNat (imax (imax (at' l b) (wb .i64 (at' (row P i) b))) (wb .i64 (0-wb .i64 (at' (row P i) b))))))
    rw [e,ke,km,eb]
    refine ih2 _ _ ⟨by omega,by omega,by rw [List.length_set]; exact hl,fun k k0 k1=>?_⟩ (by omega)
    rw [vO f1 (by omega) k0]
    by_cases c:k=b
    ·rw [if_pos c]
     dsimp only
     rw [if_pos (by omega),c]
     show _=imax (imax (mxr (fun q=>f q b) i.toNat) (f (i.toNat:Int) b)) (0-f (i.toNat:Int) b)
     rw [Int.toNat_of_nonneg g1]
    ·rw [if_neg c,f3.2 k k0 k1]
     dsimp only
     by_cases c2:k<b
     ·rw [if_pos c2,if_pos (by omega)]
     ·rw [if_neg c2,if_neg (by omega)]
   ·have d2:¬ b<((row P i).length:Int):=df d2
    have:b=B:=by have:=hr.1; omega
    exact Ok.some (f3.cg (fun k k0 k1=>by rw [if_pos (by omega)]))
  ·intro l hl
   have e:=kw1 (x:=i) (by omega) (by omega)
   refine ih _ _ ⟨by omega,by omega,?_⟩ (by omega)
   rw [e,show (i+1).toNat=i.toNat+1 by omega]; exact hl
 ·intro l hl
  have hl1:(l.length:Int)=B:=hl.1
  refine Ok.gd ⟨by omega,by omega,by omega⟩ (Ok.bind (Q:=fun r=>Pv B r (scf f M)) ?_ (fun r hr=>Ok.some ⟨hr,rfl⟩))
  have hrep:((List.replicate (Int.toNat B) (0:Int)).length:Int)=B:=by simp; omega
  unfold wP.l0
  refine wA (fun i y=>0<=i/\i<=B/\(y.length:Int)=B/\∀ q,0<=q->q<i->at' y q=scf f M q) (fun i _=>(B-i).toNat) _ ?_ 5000 _ _ ⟨by omega,by omega,hrep,fun q _ _=>by omega⟩ (by omega)
  rintro next i y ⟨g1,g2,g3,g4⟩ ih
  refine Ok.ite (fun d=>?_) (fun d=>Ok.some ⟨g3,fun q q0 q1=>g4 q q0 (by have:=df d; omega)⟩)
  have d:=dt d
  refine Ok.gd ⟨g1,d,by omega⟩ (Ok.bind (UC (at' l i)) ?_)
  rintro _ rfl
  refine Ok.gd ⟨g1,by omega,by omega⟩ ?_
  have e:=kw1 (x:=i) (by omega) (by omega)
  refine ih _ _ ⟨by omega,by omega,by rw [List.length_set]; exact g3,fun q q0 q1=>?_⟩ (by omega)
  rw [vO g1 (by omega) q0]
  by_cases c:q=i
  ·rw [if_pos c,hl.2 i g1 (by omega),c]
  ·rw [if_neg c]; exact g4 q q0 (by omega)
theorem vo {M B:Int} {P:List (List Int)} {f:Int->Int->Int} (hP:Pw M B P f) (hf:Rgf M B f) (hM:1<=M) (hM2:M<=100) (hB:1<=B) (hB2:B<=8):Ok (fun r=>Pv B r (scf f M)) (wH 5000 P):=by
 have hP1:=hP.1
 have hr0:=hP.2 0 (by omega) (by omega)
 have hr01:((Kd.nth (.slice (.int .i32)) P 0).length:Int)=B:=hr0.1
 refine Ok.bind (Q:=fun r=>Pv B r (scf f M)) ?_ (fun r hr=>Ok.some hr)
 unfold wH.l0
 refine wA (fun b y=>0<=b/\b<=B/\Pv b y (scf f M)) (fun b _=>(B-b).toNat) _ ?_ 5000 _ _ ⟨by omega,by omega,Pv.nil _⟩ (by omega)
 rintro next b y ⟨g1,g2,g3⟩ ih
 have hy:=g3.1
 refine Ok.gd (by omega) (Ok.ite (fun d=>?_) (fun d=>Ok.some (by have:=df d; rw [show b=B by omega] at g3; exact g3)))
 have d:=dt d
 have hb:b<B:=by omega
 refine Ok.bind (Q:=fun r=>r=mxr (fun i=>f i b) M.toNat) ?_ ?_
 ·unfold wH.l1
  refine wA (fun m i=>0<=i/\i<=M/\m=mxr (fun i=>f i b) i.toNat) (fun _ i=>(M-i).toNat) _ ?_ 5000 _ _ ⟨by omega,by omega,rfl⟩ (by omega)
  rintro next2 m i ⟨f1,f2,rfl⟩ ih2
  refine Ok.ite (fun d2=>?_) (fun d2=>Ok.some (by have:=df d2; rw [show i=M by omega]))
  have d2:=dt d2
  have hr:=hP.2 i f1 (by omega)
  have hr1:((Kd.nth (.slice (.int .i32)) P (Int.toNat i)).length:Int)=B:=hr.1
  obtain ⟨a1,a2⟩:=hf i b f1 (by omega) g1 hb
  have ex:at' (row P i) b=f i b:=hr.2 b g1 hb
  have ke:wb .i64 (at' (row P i) b)=f i b:=by rw [ex]; exact zY (by omega) (by omega)
  have km:wb .i64 (0-f i b)=0-f i b:=zY (by omega) (by omega)
  have hpos:=J3 (fun i=>f i b) i.toNat
  refine Ok.bind (Q:=fun r=>r=imax (imax (mxr (fun i=>f i b) i.toNat) (f i b)) (0-f i b)) ?_ ?_
  ·refine Ok.gd ⟨f1,by omega,g1,by omega⟩ ?_
   refine Ok.bind (Q:=fun r=>r=if f i b<0 then 0-f i b else f i b) (Ok.ite (fun c=>Ok.some ?_) (fun c=>Ok.some ?_)) ?_
   ·have c:wb .i64 (at' (row P i) b)<0:=dt c
    show wb .i64 (0-wb .i64 (at' (row P i) b))=_
    rw [ke] at c ⊢
    rw [km,if_pos c]
   ·have c:¬ wb .i64 (at' (row P i) b)<0:=df c
    show wb .i64 (at' (row P i) b)=_
    rw [ke] at c ⊢
    rw [if_neg c]
   ·rintro _ rfl
    refine Ok.ite (fun c=>Ok.some ?_) (fun c=>Ok.some ?_)
    ·have c:=dt c
     rw [<-Y8 hpos,if_pos c]
    ·have c:=df c
     rw [<-Y8 hpos,if_neg c]
  ·rintro _ rfl
   have e:=kw1 (x:=i) (by omega) (by omega)
   refine ih2 _ _ ⟨by omega,by omega,?_⟩ (by omega)
   rw [e,show (i+1).toNat=i.toNat+1 by omega]
   show _=imax (imax (mxr (fun i=>f i b) i.toNat) (f (i.toNat:Int) b)) (0-f (i.toNat:Int) b)
   rw [Int.toNat_of_nonneg f1]
 ·rintro _ rfl
  refine Ok.bind (Ki _) ?_
  rintro _ rfl
  refine Ok.gd (by show ((y.length:Int)+1)*8<=_; omega) ?_
  have e:=kw1 (x:=b) (by omega) (by omega)
  dsimp only
  rw [e]
  exact ih _ _ ⟨by omega,by omega,g3.snoc rfl⟩ (by omega)
end Go.Fo
