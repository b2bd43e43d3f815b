/- Bits are taken and laid; sums; lists of pairs: they come to results. -/
import Derived.Test.YtiihmaaobmpabaaGreatSfOk
import Derived.Test.YtiihmaaobmpabaaGreatSfAo
namespace Go.Fo
set_option maxRecDepth 6000
theorem kw1 {x:Int} (h0:-1000000000<=x) (h1:x<=1000000000):wa .i64 (x+1)=x+1:=zH (by omega) (by omega)
theorem uq {y:Int} (h0:0<=y) (h1:y<=100000) (b:List Int):kM 5000 y 0 b=some (y/8,kshr .u8 128 (y%8),y+1):=by
 unfold kM
 dsimp only
 rw [kw1 (by omega) (by omega),Int.tdiv_eq_ediv_of_nonneg h0,Int.tmod_eq_emod_of_nonneg h0,zH (x:=y/8) (by omega) (by omega)]
 exact zi (by omega) rfl
theorem YG {y:Int} (h0:0<=y) (h1:y<=100000) (b:List Int):jV 5000 y 0 b=some (y/8,kshr .u8 128 (y%8),y+1):=uq h0 h1 b
theorem Gw {k x:Int} {b:List Int} (hx:0<=x) (hb:b.length<=600) (hx2:x<=8*(b.length:Int)):Ok (fun r=>r=0->0<=k/\k<=32/\x+k<=8*(b.length:Int)) (jh 5000 k (b.length:Int) x 0 b):=by
 refine Ok.ite (fun _=>Ok.some (fun h=>by cases h)) (fun c=>?_)
 have e:kY 5000 (b.length:Int) x 0 b=some (8*(b.length:Int)-x):=by
  unfold kY
  dsimp only
  rw [zH (x:=8*(b.length:Int)) (by omega) (by omega),zH (x:=8*(b.length:Int)-x) (by omega) (by omega),Int.sub_zero,zH (by omega) (by omega)]
 refine Ok.bind (Ok.is e) ?_
 rintro _ rfl
 refine Ok.ite (fun _=>Ok.some (fun h=>by cases h)) (fun c2=>Ok.some (fun _=>?_))
 have c2:=df c2
 have c3:¬ k<0/\¬ k>32:=by
  cases h1:decide (k<0)
  ·rw [h1] at c; exact ⟨df h1,df c⟩
  ·rw [h1] at c; cases c
 omega
theorem HX {k x:Int} {b:List Int} (hx:0<=x) (hb:b.length<=600) (hx2:x<=8*(b.length:Int)):Ok (fun r=>r=0->0<=k/\k<=32/\x+k<=8*(b.length:Int)) (jo 5000 k (b.length:Int) x 0 b):=Gw hx hb hx2
theorem UK {v k x:Int} {b:List Int} (hb:b.length<=600) (hx:0<=x) (hx2:x<=8*(b.length:Int)):Ok (fun r=>r.2.2.length=b.length/\0<=r.2.1/\r.2.1<=8*(b.length:Int)) (zd 5000 v k x 0 b):=by
 have hw:Ok (fun r=>r=0->0<=k/\k<=32/\x+k<=8*(b.length:Int)) (kZ 5000 v k x 0 b):=by
  refine Ok.gd (fun c=>?_) ?_
  ·cases h1:decide (k>=0)
   ·have c:(bif decide (k>=0) then decide (k<32) else false)=true:=c
    rw [h1] at c; cases c
   ·exact dt h1
  refine Ok.ite (fun _=>Ok.some (fun h=>by cases h)) (fun _=>?_)
  exact Ok.bind (HX hx hb hx2) (fun r hr=>Ok.some hr)
 refine Ok.bind hw ?_
 intro r hr
 refine Ok.ite (fun _=>Ok.some ⟨rfl,hx,hx2⟩) (fun c=>?_)
 obtain ⟨k0,k1,k2⟩:=hr (by simpa using c)
 have hl:Ok (fun r=>r.2.length=b.length/\0<=r.1/\r.1<=8*(b.length:Int)) (zd.l0 5000 v 0 5000 (wa .i64 (k-1)) x b):=by
  rw [zH (x:=k-1) (by omega) (by omega)]
  unfold zd.l0
  refine qD (fun i y l=>-1<=i/\i<k/\y=x+(k-1-i)/\l.length=b.length) (fun i _ _=>(i+1).toNat) _ ?_ 5000 _ _ _ ⟨by omega,by omega,by omega,rfl⟩ (by omega)
  rintro next i y l ⟨h1,h2,h3,h4⟩ ih
  refine Ok.ite (fun c=>?_) (fun c=>Ok.some ⟨h4,by show 0<=y; omega,by show y<=_; omega⟩)
  have c:=dt c
  refine Ok.bind (Q:=fun r=>r.1=y+1/\r.2.length=b.length) ?_ ?_
  ·refine Ok.bind (Ok.is (YG (y:=y) (by omega) (by omega) l)) ?_
   rintro _ rfl
   refine Ok.gd (by omega) (Ok.ite (fun _=>Ok.gd ⟨by omega,by omega,by omega,by omega,by omega,by omega⟩ (Ok.some ⟨rfl,?_⟩)) (fun _=>Ok.some ⟨rfl,h4⟩))
   show (List.set _ _ _).length=_
   rw [List.length_set]; exact h4
  ·rintro ⟨r1,r2⟩ ⟨g1,g2⟩
   have e:wa .i64 (i-1)=i-1:=zH (by omega) (by omega)
   have g1:r1=y+1:=g1
   exact ih _ _ _ ⟨by omega,by omega,by omega,g2⟩ (by omega)
 refine Ok.bind hl ?_
 rintro ⟨y,l⟩ ⟨h1,h2,h3⟩
 exact Ok.some ⟨h1,h2,h3⟩
theorem Mt {l:List (Int × Int)} {x:Int} {b:List Int} (hl:l.length<=1000) (hb:b.length<=600) (hx:0<=x) (hx2:x<=8*(b.length:Int)):Ok (fun r=>r.2.2.length=b.length/\0<=r.2.1/\r.2.1<=8*(b.length:Int)) (wV 5000 l x 0 b):=by
 have h:Ok (fun r:Int × Int × List Int=>r.2.2.length=b.length/\0<=r.2.1/\r.2.1<=8*(b.length:Int)) (wV.l0 5000 l (l.length:Int) 0 5000 0 0 x b):=by
  unfold wV.l0
  refine yE (fun _ i y c=>0<=i/\i<=(l.length:Int)/\c.length=b.length/\0<=y/\y<=8*(b.length:Int)) (fun _ i _ _=>((l.length:Int)-i).toNat) _ ?_ 5000 _ _ _ _ ⟨by omega,by omega,rfl,hx,hx2⟩ (by omega)
  rintro next n i y c ⟨h1,h2,h3,h4,h5⟩ ih
  refine Ok.ite (fun d=>?_) (fun d=>Ok.some ⟨h3,h4,h5⟩)
  have d:=dt d
  refine Ok.gd ⟨h1,d⟩ (Ok.bind (UK (b:=c) (by omega) h4 (by omega)) ?_)
  rintro ⟨r1,r2,r3⟩ ⟨g1,g2,g3⟩
  have e:=kw1 (x:=i) (by omega) (by omega)
  exact ih _ _ _ _ ⟨by omega,by omega,g1.trans h3,g2,by rw [h3] at g3; exact g3⟩ (by omega)
 refine Ok.bind h ?_
 rintro ⟨n,y,c⟩ hr
 exact Ok.some hr
theorem ZP {b:List Int} (h0:0<b.length) (hb:b.length<=100000):Ok (fun r=>r=b) (xv 5000 b) :=
 Ok.gd (fun e=>by rw [e] at h0; cases h0) (Ok.gd (by show ((0:Int)+_)*1<=_; omega) (Ok.some rfl))
abbrev blk (Q:List (List (List Int))) (i:Int):List (List Int):=Kd.nth (.slice (.slice (.int .i64))) Q (Int.toNat i)
def Sh (C B:Int) (S:List (List Int)):Prop:=(S.length:Int)=C/\∀ c,0<=c->c<C->((row S c).length:Int)=B
def Cd (M C B:Int) (Q:List (List (List Int))):Prop:=(Q.length:Int)=M/\∀ i,0<=i->i<M->Sh C B (blk Q i)
def Jn (p0 p1 p2 p3 p4 p5 p6 p7 p8 p9:Int) (J:List Int):Prop:=(J.length:Int)=p3/\∀ i,0<=i->i<p3->at' J i=0\/(p6=1/\at' J i=1)
def Val (p0 p1 p2 p3 p4 p5 p6 p7 p8 p9:Int) (J:List Int) (S:List (List Int)) (Q:List (List (List Int))) (sh:List (List Int)):Prop :=
  Fit p0 p1 p2 p3 p4 p5 p6 p7 p8 p9 S/\Jn p0 p1 p2 p3 p4 p5 p6 p7 p8 p9 J/\Cd p4 p2 p3 Q/\Sh p2 p3 sh/\zp 5000 p0 p1 p2 p3 p4 p5 p6 p7 p8 p9 S=some (sh,0)
theorem G8 (p0 p1 p2 p3 p4 p5 p6 p7 p8 p9:Int):Ok (fun l=>l.length<=10) (qR 5000 p0 p1 p2 p3 p4 p5 p6 p7 p8 p9):=by
 refine Ok.bind (Q:=fun _=>True) (Ok.ite (fun _=>Ok.some trivial) (fun _=>Ok.some trivial)) ?_
 intro r _
 exact Ok.some (by show 6<=10; omega)
theorem UA {n:Int} (h0:0<=n) (h1:n<=512):kr 5000 n=some (.inr (List.replicate n.toNat 0)) :=
 wA (decide_eq_false (by omega)) (wA (decide_eq_false (by omega)) (zi ⟨h0,by omega,by omega⟩ rfl))
theorem Ks (p0 p1 p2 p3 p4 p5 p6 p7 p8 p9:Int) (hm:yd p0 p1 p2 p3 p4 p5 p6 p7 p8 p9):7<=vn p2 p3 p4 p6 p7/\vn p2 p3 p4 p6 p7<=512:=by
 have:=WO p0 p1 p2 p3 p4 p5 p6 p7 p8 p9 hm.1
 have:=hm.2
 unfold vn; omega
end Go.Fo
