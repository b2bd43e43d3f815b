/- What eyes read and pads are written,exactly. -/
import Derived.Test.YtllmmohdmmneoaaGreatMaWa
namespace Go.Fo
set_option maxRecDepth 6000
theorem kw1 {x:Int} (h0:-1000000000<=x) (h1:x<=1000000000):wb .i64 (x+1)=x+1:=wT (by omega) (by omega)
theorem KF {n y:Nat} (hn:n<=1000000) (hy:y<8*n) (x:Int) (b:Li):kL 100000 n x y b=some (((n-1-y/8:Nat):Int),kshr .u8 128 ((7-y%8:Nat):Int),((y+1:Nat):Int)):=by
 unfold kL
 dsimp only
 rw[Int.tdiv_eq_ediv_of_nonneg (by omega:(0:Int)<=(y:Int)),Int.tmod_eq_emod_of_nonneg (by omega:(0:Int)<=(y:Int)),kw1 (by omega) (by omega),wT (x:=(n:Int)-1) (by omega) (by omega),wT (x:=(y:Int)/8) (by omega) (by omega),wT (x:=(n:Int)-1-(y:Int)/8) (by omega) (by omega)]
 refine zp (by omega) ?_
 rw[show ((y:Int)%8)=((y%8:Nat):Int) by omega,HW (Nat.mod_lt _ (by decide))]
 rw[show (n:Int)-1-(y:Int)/8=((n-1-y/8:Nat):Int) by omega];rfl
theorem YJ {n y:Nat} (hn:n<=1000000) (hy:y<8*n) (x:Int) (b:Li):kR 100000 n x y b=some (((n-1-y/8:Nat):Int),kshr .u8 128 ((7-y%8:Nat):Int),((y+1:Nat):Int)):=KF hn hy x b
theorem gi {n j t:Nat} {g:Nat->Int} (hg:B01 g) (hj:j<n) (ht:t<8) (x y:Int):jA 100000 j (kshr .u8 128 (t:Int)) x y (pf n g)=some (g (8*j+t)):=by
 have hr:=Vs hg j
 refine zp ⟨by omega,by rw[kH];omega⟩ ?_
 have e:Kd.nth (.int .u8) (pf n g) (Int.toNat (j:Int))=fby g j:=Ue hj
 rw[e,HK hr.1 hr.2 ht,XR hg j t ht]
 rcases hg (8*j+t) with h|h<;>rw[h]<;>rfl
def pb (n y:Nat):Nat:=8*n-1-y
theorem H9 {n y:Nat} (hy:y<8*n):8*(n-1-y/8)+(7-y%8)=pb n y:=by unfold pb;omega
theorem ge {n x y:Nat} {b:Li} {k:Int} (hk0:0<=k) (hk:k<=32) (hn:n<=1000000) (hs:(x:Int)+y+k<=8*n):jT 100000 k n x y b=some 0:=by
 refine wq (by rw[decide_eq_false (by omega),decide_eq_false (by omega)];rfl) (wr (x:=8*(n:Int)-x-y) ?_ (wq (decide_eq_false (by omega)) rfl))
 unfold j4
 dsimp only
 rw[wT (x:=8*(n:Int)) (by omega) (by omega),wT (x:=8*(n:Int)-x) (by omega) (by omega),wT (by omega) (by omega)]
theorem Hr {n x y:Nat} {b:Li} {k:Int} (hk0:0<=k) (hk:k<=32) (hn:n<=1000000) (hs:(x:Int)+y+k<=8*n):kV 100000 k n x y b=some 0:=ge (b:=b) hk0 hk hn hs
def bnum (g:Nat->Int) (n y:Nat):Nat->Int
  | 0=>0
  | k+1=>bnum g n y k+g (pb n (y+k))*2^k
theorem Je {g:Nat->Int} (hg:B01 g) (n y k:Nat):0<=bnum g n y k/\bnum g n y k<2^k:=by
 induction k with
 | zero=>exact ⟨Int.le_refl _,by show (0:Int)<2^0;decide⟩
 | succ k ih =>
  have hp:=Vt k
  have e:(2:Int)^(k+1)=2^k*2:=Int.pow_succ _ _
  unfold bnum
  rcases hg (pb n (y+k)) with h|h<;>rw[h]<;>omega
theorem uO {n x y k:Nat} {g:Nat->Int} (hg:B01 g) (hn:n<=1000000) (hk:k<32) (hs:x+y+k<=8*n):zX 100000 k x y (pf n g)=some (bnum g n y k,0,((y+k:Nat):Int)):=by
 refine wr (by rw[kH];exact ge (by omega) (by omega) hn (by omega)) (wq rfl ?_)
 have key:∀(j m:Nat),j<m->j<=k->zX.l0 100000 k x (pf n g) m (bnum g n y (k-j)) ((k-j:Nat):Int) ((y+(k-j):Nat):Int)=some (bnum g n y k,((y+k:Nat):Int)):=by
  intro j
  induction j with
  | zero =>
   intro m hm _
   obtain ⟨m,rfl⟩:∃q,m=q+1:=⟨m-1,by omega⟩
   show zX.r0 100000 k x (pf n g) (zX.l0 100000 k x (pf n g) m) _ _ _=_
   unfold zX.r0
   exact wq (decide_eq_false (by omega)) rfl
  | succ j ih =>
   intro m hm hj
   obtain ⟨m,rfl⟩:∃q,m=q+1:=⟨m-1,by omega⟩
   have ih:=ih m (by omega) (by omega)
   show zX.r0 100000 k x (pf n g) (zX.l0 100000 k x (pf n g) m) _ _ _=_
   unfold zX.r0
   have hy:y+(k-(j+1))<8*n:=by omega
   refine wI (decide_eq_true (by omega)) (wr (by rw[kH];exact KF hn hy _ _) (wr (gi (n:=n) (j:=n-1-(y+(k-(j+1)))/8) (t:=7-(y+(k-(j+1)))%8) hg (by omega) (by omega) _ _) ?_))
   rw[H9 hy]
   have hr:=Je hg n y (k-(j+1))
   dsimp only
   refine zp (by omega) ?_
   rw[Mq (by omega) hr.1 hr.2 (hg _),kw1 (by omega) (by omega)]
   have e:k-j=k-(j+1)+1:=by omega
   rw[e] at ih
   have e2:(((k-(j+1):Nat)):Int)+1=((k-(j+1)+1:Nat):Int):=by omega
   have e3:y+(k-(j+1))+1=y+(k-(j+1)+1):=by omega
   rw[e2,e3]
   exact ih
 have:=key k 100000 (by omega) (Nat.le_refl _)
 rw[Nat.sub_self] at this
 exact wr this rfl
theorem ur {n x y k:Nat} {g:Nat->Int} (hg:B01 g) (hn:n<=1000000) (hk:k<32) (hs:x+y+k<=8*n):wj 100000 k x y (pf n g)=some (bnum g n y k,((y+k:Nat):Int)):=by
 have hr:=Je hg n y k
 have hp:=JZ (show k<=31 by omega)
 have e31:(2:Int)^31=2147483648:=by decide
 refine wr (uO hg hn hk hs) ?_
 dsimp only
 rw[wT (by omega) (by omega)]
def eb (n:Nat) (g:Nat->Int) (i:Nat):Int:=if i<8*n then g i else 0
theorem Kn {n:Nat} {g:Nat->Int} (hg:B01 g):B01 (eb n g):=fun i=>by unfold eb;split;exact hg i;exact .inl rfl
theorem VZ {n i:Nat} {g:Nat->Int} (hg:B01 g) (hn:n<=1000000) (hi:i<=1000000000) (x y:Int):kE 100000 i x y (pf n g)=some (eb n g i):=by
 have e0:Int.tdiv (i:Int) 8=((i/8:Nat):Int):=by rw[Int.tdiv_eq_ediv_of_nonneg (by omega)];omega
 have e1:Int.tmod (i:Int) 8=((i%8:Nat):Int):=by rw[Int.tmod_eq_emod_of_nonneg (by omega)];omega
 unfold kE
 dsimp only
 rw[e0,e1,wT (x:=((i/8:Nat):Int)) (by omega) (by omega),kH]
 by_cases h:i<8*n
 ·refine wq (by rw[decide_eq_false (by omega),decide_eq_false (by omega)];rfl) (zp (by omega) (wr (gi hg (by omega) (Nat.mod_lt _ (by decide)) _ _) ?_))
  rw[show 8*(i/8)+i%8=i by omega]
  have:=hg.bd i
  rw[wT (by omega) (by omega)]
  unfold eb;rw[if_pos h]
 ·refine wI (by rw[decide_eq_false (by omega),decide_eq_true (by omega)];rfl) ?_
  unfold eb;rw[if_neg h]
def blay (g:Nat->Int) (n y:Nat) (v:Int):Nat->Nat->Int
  | 0=>g
  | k+1=>upd (blay g n y v k) (pb n (y+k)) (v/2^k%2)
theorem Xq {g:Nat->Int} (hg:B01 g) (n y:Nat) (v:Int) (k:Nat):B01 (blay g n y v k):=by
 induction k with
 | zero=>exact hg
 | succ k ih=>exact ih.upd (by omega)
theorem Yr {g:Nat->Int} {n y:Nat} {v:Int} {k p:Nat} (hk:y+k<=8*n) (hp:p<8*n):blay g n y v k p=if 8*n<=p+(y+k)/\p+y<8*n then v/2^(8*n-1-y-p)%2 else g p:=by
 induction k with
 | zero=>rw[if_neg (by omega)];rfl
 | succ k ih =>
  have ih:=ih (by omega)
  show upd _ _ _ p=_
  by_cases e:p=pb n (y+k)
  ·have e2:p=8*n-1-(y+k):=e
   rw[<-e,QU,if_pos (by omega),show 8*n-1-y-p=k by omega]
  ·have e2:p≠8*n-1-(y+k):=e
   rw[Zj e,ih]
   by_cases h:8*n<=p+(y+k)/\p+y<8*n
   ·rw[if_pos h,if_pos (by omega)]
   ·rw[if_neg h,if_neg (by omega)]
theorem Xp {n x y k:Nat} {v:Int} {b:Li} (hb:b.length=n) (hn:n<=1000000) (hk:k<32) (hv0:0<=v) (hv:v<2^k) (hs:x+y+k<=8*n):kO 100000 v k x y b=some 0:=by
 refine zp (fun _=>by omega) (wq ?_ (wr (by rw[hb];exact Hr (by omega) (by omega) hn (by omega)) rfl))
 rw[decide_eq_true (show (k:Int)>=0 by omega),decide_eq_true (show (k:Int)<32 by omega),Ub hk,Int.ediv_eq_zero_of_lt hv0 hv];rfl
theorem Vh {n p:Nat} {g:Nat->Int} (hg:B01 g) (hp:p<8*n) (hz:g p=0):List.set (pf n g) (Int.toNat ((p/8:Nat):Int)) (kor .u8 (Kd.nth (.int .u8) (pf n g) (Int.toNat ((p/8:Nat):Int))) (kshr .u8 128 ((p%8:Nat):Int)))=pf n (upd g p 1):=by
 rw[show Int.toNat ((p/8:Nat):Int)=p/8 by omega,Ue (by omega)]
 exact V1 hg hp hz
theorem Hu {n x y k:Nat} {v:Int} {g:Nat->Int} (hg:B01 g) (hn:n<=1000000) (hk:k<32) (hv0:0<=v) (hv:v<2^k) (hs:x+y+k<=8*n) (hz:∀i,i<k->g (pb n (y+i))=0):zv 100000 v k x y (pf n g)=some (0,((y+k:Nat):Int),pf n (blay g n y v k)):=by
 have hp32:=JZ (show k<=31 by omega)
 have e31:(2:Int)^31=2147483648:=by decide
 refine wr (Xp (kH _ _) hn hk hv0 hv hs) (wq rfl ?_)
 have key:∀(j m:Nat),j<m->j<=k->zv.l0 100000 v k x m ((k-j:Nat):Int) ((y+(k-j):Nat):Int) (pf n (blay g n y v (k-j)))=some (((y+k:Nat):Int),pf n (blay g n y v k)):=by
  intro j
  induction j with
  | zero =>
   intro m hm _
   obtain ⟨m,rfl⟩:∃q,m=q+1:=⟨m-1,by omega⟩
   show zv.r0 100000 v k x (zv.l0 100000 v k x m) _ _ _=_
   unfold zv.r0
   exact wq (decide_eq_false (by omega)) rfl
  | succ j ih =>
   intro m hm hj
   obtain ⟨m,rfl⟩:∃q,m=q+1:=⟨m-1,by omega⟩
   have ih:=ih m (by omega) (by omega)
   have e:k-j=k-(j+1)+1:=by omega
   rw[e] at ih
   generalize hi:k-(j+1)=i at ih ⊢
   have hik:i<k:=by omega
   show zv.r0 100000 v k x (zv.l0 100000 v k x m) _ _ _=_
   unfold zv.r0
   have hy:y+i<8*n:=by omega
   have hz2:blay g n y v i (pb n (y+i))=0:=by
    rw[Yr (by omega) (by unfold pb;omega),if_neg (by unfold pb;omega)];exact hz i hik
   have hvi:0<=v/2^i:=Int.ediv_nonneg hv0 (Int.le_of_lt (Vt i))
   have hvi2:v/2^i<4294967296:=by
    have:v/2^i<=v:=Int.ediv_le_self _ hv0
    omega
   refine wI (decide_eq_true (by omega)) (wr (x:=(((y+i+1:Nat):Int),pf n (blay g n y v (i+1)))) (wr (by rw[kH];exact YJ hn hy _ _) ?_) ?_)
   ·dsimp only
    refine zp (by omega) ?_
    rw[Ub (by omega),gh hvi hvi2]
    have hb:=Xq hg n y v i
    have h1:(((n-1-(y+i)/8:Nat)):Int)=((pb n (y+i)/8:Nat):Int):=by unfold pb;omega
    have h2:(((7-(y+i)%8:Nat)):Int)=((pb n (y+i)%8:Nat):Int):=by unfold pb;omega
    rw[h1,h2]
    have hpn:pb n (y+i)<8*n:=by unfold pb;omega
    rcases (show v/2^i%2=0\/v/2^i%2=1 by omega) with q|q
    ·refine wq (by rw[q];rfl) ?_
     show _=some (_,pf n (upd _ _ _))
     rw[q,J0 hz2]
    ·refine wI (by rw[q];rfl) (zp ⟨by omega,by rw[kH];omega,by rw[kH];omega,by omega,by rw[kH];omega,by rw[kH];omega⟩ ?_)
     show _=some (_,pf n (upd _ _ _))
     rw[q,Vh hb hpn hz2]
   ·dsimp only
    rw[kw1 (by omega) (by omega)]
    exact ih
 have:=key k 100000 (by omega) (Nat.le_refl _)
 rw[Nat.sub_self] at this
 exact wr this rfl
theorem uW {y:Nat} (h1:y<=1000000000) (x:Int) (b:Li):k8 100000 y x b=some (((y/8:Nat):Int),kshr .u8 128 ((y%8:Nat):Int),((y+1:Nat):Int)):=by
 unfold k8
 dsimp only
 rw[kw1 (by omega) (by omega),Int.tdiv_eq_ediv_of_nonneg (by omega:(0:Int)<=(y:Int)),Int.tmod_eq_emod_of_nonneg (by omega:(0:Int)<=(y:Int)),wT (x:=(y:Int)/8) (by omega) (by omega)]
 refine zp (by omega) ?_
 rw[show ((y:Int)/8)=((y/8:Nat):Int) by omega,show ((y:Int)%8)=((y%8:Nat):Int) by omega];rfl
theorem g6 {n x y:Nat} {v:Int} {g:Nat->Int} (hg:B01 g) (hn:n<=1000000) (hv:v=0\/v=1) (hs:x+y+1<=8*n) (hz:g x=0):zL 100000 v 1 x y (pf n g)=some (0,((x+1:Nat):Int),pf n (upd g x v)):=by
 refine wr (Xp (k:=1) (kH _ _) hn (by omega) (by omega) (by rcases hv with e|e<;>rw[e]<;>decide) hs) (wq rfl ?_)
 have hl:zL.l0 100000 v y 100000 (wb .i64 (1-1)) x (pf n g)=some (((x+1:Nat):Int),pf n (upd g x v)):=by
  rw[show wb .i64 (1-1)=0 by decide]
  show zL.r0 100000 v y (zL.l0 100000 v y 99999) 0 x (pf n g)=_
  unfold zL.r0
  refine wI rfl (wr (x:=(((x+1:Nat):Int),pf n (upd g x v))) (wr (uW (by omega) _ _) ?_) ?_)
  ·dsimp only
   refine zp (by omega) ?_
   rw[show (0:Int)=((0:Nat):Int) from rfl,Ub (by decide),gh (by rcases hv with e|e<;>rw[e]<;>decide) (by rcases hv with e|e<;>rw[e]<;>decide)]
   rcases hv with rfl|rfl
   ·refine wq rfl ?_
    rw[J0 hz]
   ·refine wI rfl (zp ⟨by omega,by rw[kH];omega,by rw[kH];omega,by omega,by rw[kH];omega,by rw[kH];omega⟩ ?_)
    rw[Vh hg (by omega) hz]
  ·dsimp only
   rw[show wb .i64 (0-1)=-1 by decide]
   show zL.r0 100000 v y (zL.l0 100000 v y 99998) (-1) ((x+1:Nat):Int) (pf n (upd g x v))=_
   unfold zL.r0
   exact wq rfl rfl
 exact wr hl rfl
end Go.Fo
