/- The finder of symbols: what it finds,exactly. -/
import Derived.Test.YtllmmohdmmneoaaGreatMaWe
namespace Go.Fo
set_option maxRecDepth 6000
structure FS where
  lo:Int
  hi:Int
  rd:Nat
  va:Int
def frep (s:FS):Int×Int×Int×Int:=(s.lo,s.hi,(s.rd:Int),s.va)
def fwid (β:Nat->Int):Nat->FS->FS
  | 0,s=>s
  | n+1,s =>
    if s.hi<32768 then fwid β n ⟨2*s.lo,2*s.hi+1,s.rd+1,2*s.va+β s.rd⟩
    else if 32768<=s.lo then fwid β n ⟨2*(s.lo-32768),2*(s.hi-32768)+1,s.rd+1,2*(s.va-32768)+β s.rd⟩
    else if 16384<=s.lo/\s.hi<49152 then fwid β n ⟨2*(s.lo-16384),2*(s.hi-16384)+1,s.rd+1,2*(s.va-16384)+β s.rd⟩
    else s
theorem UC {n:Nat} {g:Nat->Int} (hg:B01 g) (hn:n<=1000000) {r:Nat} (hr:r<=90000000) (lo hi va x y:Int):qA 100000 lo hi 0 r va x y (pf n g)=some (eb n g r,((r+1:Nat):Int)):=by
 unfold qA
 dsimp only
 rw[Int.zero_add,wT (x:=(r:Int)) (by omega) (by omega)]
 refine wr (VZ hg hn (by omega) x y) ?_
 rw[kw1 (by omega) (by omega)];rfl
theorem u4 {n:Nat} {g:Nat->Int} (hg:B01 g) (hn:n<=1000000) {r:Nat} (hr:r<=90000000) {off va:Int} (h0:0<=va-off) (h1:va-off<=65536) (h2:-100000<=off) (lo hi x y:Int):qI 100000 off lo hi 0 r va x y (pf n g)=some (((r+1:Nat):Int),2*(va-off)+eb n g r):=by
 have hb:=(Kn (n:=n) hg).bd r
 unfold qI
 dsimp only
 refine wr (UC hg hn hr _ _ _ _ _) ?_
 dsimp only
 rw[wT (x:=va-off) (by omega) (by omega),wT (x:=2*(va-off)) (by omega) (by omega),wT (x:=2*(va-off)+eb n g r) (by omega) (by omega)]
theorem HE {n:Nat} {g:Nat->Int} (hg:B01 g) (hn:n<=1000000) (x y:Int) (i:Nat):∀(m:Nat) (s:FS),i<m->Rn s.lo s.hi->s.lo<=s.va->s.va<=s.hi->32769<=(s.hi-s.lo+1)*2^i->s.rd+i<=90000000 →
  zc.l0 100000 0 x y (pf n g) m s.lo s.hi s.rd s.va=some (frep (fwid (eb n g) i s))/\Rn (fwid (eb n g) i s).lo (fwid (eb n g) i s).hi/\Ju (fwid (eb n g) i s).lo (fwid (eb n g) i s).hi/\(fwid (eb n g) i s).lo<=(fwid (eb n g) i s).va/\(fwid (eb n g) i s).va<=(fwid (eb n g) i s).hi/\(fwid (eb n g) i s).rd<=s.rd+i:=by
 induction i with
 | zero =>
  intro m s hm hr v0 v1 hw hs
  obtain ⟨m,rfl⟩:∃q,m=q+1:=⟨m-1,by omega⟩
  obtain ⟨r0,r1,r2⟩:=hr
  have hw:32769<=s.hi-s.lo+1:=by simpa using hw
  refine ⟨?_,⟨r0,r1,r2⟩,⟨by show 32768<=s.hi;omega,by show s.lo<_;omega,?_⟩,v0,v1,Nat.le_refl _⟩
  ·show zc.r0 100000 0 x y (pf n g) (zc.l0 100000 0 x y (pf n g) m) s.lo s.hi s.rd s.va=_
   unfold zc.r0
   refine wr (x:=.inr (s.lo,s.hi,(s.rd:Int),s.va)) ?_ rfl
   refine wq (decide_eq_false (by omega)) (wq (decide_eq_false (by omega)) (wq ?_ rfl))
   by_cases e:s.lo>=16384
   ·rw[decide_eq_true e,decide_eq_false (by omega)];rfl
   ·rw[decide_eq_false e];rfl
  ·show s.lo<16384\/49152<=s.hi
   omega
 | succ i ih =>
  intro m s hm hr v0 v1 hw hs
  obtain ⟨m,rfl⟩:∃q,m=q+1:=⟨m-1,by omega⟩
  have hrr:=hr
  obtain ⟨r0,r1,r2⟩:=hrr
  have hb:=(Kn (n:=n) hg).bd s.rd
  have hw2:32769<=(s.hi-s.lo+1)*2*2^i:=by rw[Int.pow_succ,Int.mul_comm (2^i) 2,<-Int.mul_assoc] at hw;exact hw
  have hunf:zc.l0 100000 0 x y (pf n g) (m+1) s.lo s.hi s.rd s.va=zc.r0 100000 0 x y (pf n g) (zc.l0 100000 0 x y (pf n g) m) s.lo s.hi s.rd s.va:=rfl
  rw[hunf]
  unfold zc.r0 fwid
  have go:∀off:Int,0<=s.lo-off->s.hi-off<32768->(off=0\/off=32768\/off=16384) →
    (bif decide (s.hi<32768) then some (.inl 0) else bif decide (s.lo>=32768) then some (.inl 32768) else bif (bif decide (s.lo>=16384) then decide (s.hi<49152) else false) then some (.inl 16384) else some (.inr (s.lo,s.hi,(s.rd:Int),s.va)):Option (Int⊕(Int×Int×Int×Int)))=some (.inl off) →
    ((bif decide (s.hi<32768) then some (.inl 0) else bif decide (s.lo>=32768) then some (.inl 32768) else bif (bif decide (s.lo>=16384) then decide (s.hi<49152) else false) then some (.inl 16384) else some (.inr (s.lo,s.hi,(s.rd:Int),s.va)):Option (Int⊕(Int×Int×Int×Int))).bind fun z=>match z with
     | .inl d=>(qI 100000 d s.lo s.hi 0 s.rd s.va x y (pf n g)).bind fun (p,q)=>zc.l0 100000 0 x y (pf n g) m (wb .i64 (2*wb .i64 (s.lo-d))) (wb .i64 (wb .i64 (2*wb .i64 (s.hi-d))+1)) p q
     | .inr r=>some r)=some (frep (fwid (eb n g) i ⟨2*(s.lo-off),2*(s.hi-off)+1,s.rd+1,2*(s.va-off)+eb n g s.rd⟩))/\Rn (fwid (eb n g) i ⟨2*(s.lo-off),2*(s.hi-off)+1,s.rd+1,2*(s.va-off)+eb n g s.rd⟩).lo (fwid (eb n g) i ⟨2*(s.lo-off),2*(s.hi-off)+1,s.rd+1,2*(s.va-off)+eb n g s.rd⟩).hi/\Ju (fwid (eb n g) i ⟨2*(s.lo-off),2*(s.hi-off)+1,s.rd+1,2*(s.va-off)+eb n g s.rd⟩).lo (fwid (eb n g) i ⟨2*(s.lo-off),2*(s.hi-off)+1,s.rd+1,2*(s.va-off)+eb n g s.rd⟩).hi/\(fwid (eb n g) i ⟨2*(s.lo-off),2*(s.hi-off)+1,s.rd+1,2*(s.va-off)+eb n g s.rd⟩).lo<=(fwid (eb n g) i ⟨2*(s.lo-off),2*(s.hi-off)+1,s.rd+1,2*(s.va-off)+eb n g s.rd⟩).va/\(fwid (eb n g) i ⟨2*(s.lo-off),2*(s.hi-off)+1,s.rd+1,2*(s.va-off)+eb n g s.rd⟩).va<=(fwid (eb n g) i ⟨2*(s.lo-off),2*(s.hi-off)+1,s.rd+1,2*(s.va-off)+eb n g s.rd⟩).hi/\(fwid (eb n g) i ⟨2*(s.lo-off),2*(s.hi-off)+1,s.rd+1,2*(s.va-off)+eb n g s.rd⟩).rd<=s.rd+(i+1):=by
   intro off o0 o1 o2 hsel
   have hh:=ih m ⟨2*(s.lo-off),2*(s.hi-off)+1,s.rd+1,2*(s.va-off)+eb n g s.rd⟩ (by omega) ⟨by show 0<=2*(s.lo-off);omega,by show 2*(s.lo-off)<=2*(s.hi-off)+1;omega,by show 2*(s.hi-off)+1<=65535;omega⟩ (by show 2*(s.lo-off)<=2*(s.va-off)+eb n g s.rd;omega) (by show 2*(s.va-off)+eb n g s.rd<=2*(s.hi-off)+1;omega)
    (by show 32769<=(2*(s.hi-off)+1-2*(s.lo-off)+1)*2^i;rw[show 2*(s.hi-off)+1-2*(s.lo-off)+1=(s.hi-s.lo+1)*2 by omega];exact hw2) (by show s.rd+1+i<=_;omega)
   refine ⟨?_,hh.2.1,hh.2.2.1,hh.2.2.2.1,hh.2.2.2.2.1,Nat.le_trans hh.2.2.2.2.2 (by show s.rd+1+i<=_;omega)⟩
   refine wr hsel ?_
   refine wr (u4 hg hn (by omega) (by omega) (by omega) (by omega) _ _ _ _) ?_
   dsimp only
   rw[wT (x:=s.lo-off) (by omega) (by omega),wT (x:=s.hi-off) (by omega) (by omega),wT (x:=2*(s.lo-off)) (by omega) (by omega),wT (x:=2*(s.hi-off)) (by omega) (by omega),wT (x:=2*(s.hi-off)+1) (by omega) (by omega)]
   exact hh.1
  by_cases c1:s.hi<32768
  ·rw[if_pos c1]
   have:=go 0 (by omega) (by omega) (.inl rfl) (wI (decide_eq_true c1) rfl)
   rw[Int.sub_zero,Int.sub_zero,Int.sub_zero] at this
   exact this
  ·rw[if_neg c1]
   by_cases c2:32768<=s.lo
   ·rw[if_pos c2]
    exact go 32768 (by omega) (by omega) (.inr (.inl rfl)) (wq (decide_eq_false c1) (wI (decide_eq_true c2) rfl))
   ·rw[if_neg c2]
    by_cases c3:16384<=s.lo/\s.hi<49152
    ·rw[if_pos c3]
     exact go 16384 (by omega) (by omega) (.inr (.inr rfl)) (wq (decide_eq_false c1) (wq (decide_eq_false c2) (wI (by rw[decide_eq_true (show s.lo>=16384 from c3.1),decide_eq_true c3.2];rfl) rfl)))
    ·rw[if_neg c3]
     refine ⟨?_,hr,⟨by omega,by omega,by omega⟩,v0,v1,Nat.le_add_right _ _⟩
     refine wr (x:=.inr (s.lo,s.hi,(s.rd:Int),s.va)) ?_ rfl
     refine wq (decide_eq_false c1) (wq (decide_eq_false c2) (wq ?_ rfl))
     by_cases e:s.lo>=16384
     ·rw[decide_eq_true e,decide_eq_false (by omega)];rfl
     ·rw[decide_eq_false e];rfl
structure Fok (s:FS):Prop where
  rn:Rn s.lo s.hi
  wd:Ju s.lo s.hi
  v0:s.lo<=s.va
  v1:s.va<=s.hi
def FS.got (β:Nat->Int) (s:FS) (t:Li) (k:Nat):FS:=fwid β 16 ⟨nl t k s.lo s.hi,nl t (k+1) s.lo s.hi-1,s.rd,s.va⟩
def At (s:FS) (t:Li) (k:Nat):Prop:=k<t.length/\nl t k s.lo s.hi<=s.va/\s.va<nl t (k+1) s.lo s.hi
theorem U6 {t:Li} (h:Tb t) {lo hi:Int} (hr:Rn lo hi) {s:Nat} (hs:s<t.length) (f d a x y:Int) (b:Li):qc 100000 t s (flo t t.length) lo hi f d a x y b=some (nl t s lo hi,nl t (s+1) lo hi-1):=Z9 h hr hs f true d b
theorem HZ {t:Li} (h:Tb t) {k:Int} (h0:0<=k) (h1:k<flo t t.length):∃s,s<t.length/\flo t s<=k/\k<flo t (s+1):=by
 have key:∀j,j<=t.length->k<flo t j->∃s,s<j/\flo t s<=k/\k<flo t (s+1):=by
  intro j
  induction j with
  | zero=>intro _ hk;have e:flo t 0=0:=rfl;omega
  | succ j ih =>
   intro hj hk
   rcases (show k<flo t j\/flo t j<=k by omega) with q|q
   ·obtain ⟨s,a,b,c⟩:=ih (by omega) q
    exact ⟨s,by omega,b,c⟩
   ·exact ⟨j,by omega,q,hk⟩
 exact key t.length (Nat.le_refl _) h1
theorem Uz {t:Li} (h:Tb t) {s:FS} (hf:Fok s) {k:Nat} (hk:k<t.length):At s t k↔flo t k<=((s.va-s.lo+1)*flo t t.length-1)/(s.hi-s.lo+1)/\((s.va-s.lo+1)*flo t t.length-1)/(s.hi-s.lo+1)<flo t (k+1):=by
 have ha0:0<flo t t.length:=by have:=jc h (show 0<=t.length by omega) (Nat.le_refl _);have e:flo t 0=0:=rfl;omega
 have hW:0<s.hi-s.lo+1:=by have:=hf.rn.lh;omega
 unfold At nl
 rw[Int.le_ediv_iff_mul_le hW,Int.ediv_lt_iff_lt_mul hW,Int.mul_comm (flo t k),Int.mul_comm (flo t (k+1))]
 have e1:(s.hi-s.lo+1)*flo t k/flo t t.length<s.va-s.lo+1↔(s.hi-s.lo+1)*flo t k<(s.va-s.lo+1)*flo t t.length:=Int.ediv_lt_iff_lt_mul ha0
 have e2:s.va-s.lo+1<=(s.hi-s.lo+1)*flo t (k+1)/flo t t.length↔(s.va-s.lo+1)*flo t t.length<=(s.hi-s.lo+1)*flo t (k+1):=Int.le_ediv_iff_mul_le ha0
 constructor
 ·rintro ⟨_,a,b⟩
  have a2:=e1.1 (by omega)
  have b2:=e2.1 (by omega)
  omega
 ·rintro ⟨a,b⟩
  have a2:=e1.2 (by omega)
  have b2:=e2.2 (by omega)
  exact ⟨hk,by omega,by omega⟩
theorem HQ {t:Li} (h:Tb t) {s:FS} (hf:Fok s):∃k,At s t k:=by
 have ha:=h.all
 have ha0:0<flo t t.length:=by have:=jc h (show 0<=t.length by omega) (Nat.le_refl _);have e:flo t 0=0:=rfl;have:=h.l2;omega
 have hW:0<s.hi-s.lo+1:=by have:=hf.rn.lh;omega
 have v0:=hf.v0;have v1:=hf.v1
 have q0:0<=((s.va-s.lo+1)*flo t t.length-1)/(s.hi-s.lo+1):=by
  refine Int.ediv_nonneg ?_ (Int.le_of_lt hW)
  have:=Int.mul_le_mul_of_nonneg_right (show 1<=s.va-s.lo+1 by omega) (Int.le_of_lt ha0)
  omega
 have q1:((s.va-s.lo+1)*flo t t.length-1)/(s.hi-s.lo+1)<flo t t.length:=by
  rw[Int.ediv_lt_iff_lt_mul hW,Int.mul_comm (flo t t.length)]
  have:=Int.mul_le_mul_of_nonneg_right (show s.va-s.lo+1<=s.hi-s.lo+1 by omega) (Int.le_of_lt ha0)
  omega
 obtain ⟨k,a,b,c⟩:=HZ h q0 q1
 exact ⟨k,(Uz h hf a).2 ⟨b,c⟩⟩
theorem Us {n:Nat} {g:Nat->Int} (hg:B01 g) (hn:n<=1000000) (x y:Int) {t:Li} (h:Tb t) {s:FS} (hf:Fok s) (hr:s.rd+16<=90000000) {k:Nat} (hk:At s t k) :
  zb 100000 t s.lo s.hi 0 s.rd s.va x y (pf n g)=some ((k:Int),0,frep (s.got (eb n g) t k))/\Fok (s.got (eb n g) t k)/\(s.got (eb n g) t k).rd<=s.rd+16:=by
 have ha:=h.all;have hl:=h.l32
 have ha0:0<flo t t.length:=by have:=jc h (show 0<=t.length by omega) (Nat.le_refl _);have e:flo t 0=0:=rfl;have:=h.l2;omega
 have hW:0<s.hi-s.lo+1:=by have:=hf.rn.lh;omega
 have v0:=hf.v0;have v1:=hf.v1
 have hw:=hf.wd.w hf.rn
 obtain ⟨r0,r1,r2⟩:=hf.rn
 obtain ⟨hkl,k0,k1⟩:=hk
 have hq:=(Uz h hf hkl).1 ⟨hkl,k0,k1⟩
 have p1:1*flo t t.length<=(s.va-s.lo+1)*flo t t.length:=Int.mul_le_mul_of_nonneg_right (by omega) (Int.le_of_lt ha0)
 have p2:(s.va-s.lo+1)*flo t t.length<=65536*4096:=Int.mul_le_mul (by omega) ha (Int.le_of_lt ha0) (by omega)
 have q1:=YV h hf.rn (show k<=t.length by omega)
 have q2:=YV h hf.rn (show k+1<=t.length by omega)
 have hlt:=gg h hf.rn (by omega) hkl
 have hwd:=HE hg hn x y 16 100000 ⟨nl t k s.lo s.hi,nl t (k+1) s.lo s.hi-1,s.rd,s.va⟩ (by omega) ⟨by show 0<=nl t k s.lo s.hi;omega,by show nl t k s.lo s.hi<=nl t (k+1) s.lo s.hi-1;omega,by show nl t (k+1) s.lo s.hi-1<=_;omega⟩ k0 (by show s.va<=nl t (k+1) s.lo s.hi-1;omega)
  (by show 32769<=(nl t (k+1) s.lo s.hi-1-nl t k s.lo s.hi+1)*2^16;omega) hr
 refine ⟨?_,⟨hwd.2.1,hwd.2.2.1,hwd.2.2.2.1,hwd.2.2.2.2.1⟩,hwd.2.2.2.2.2⟩
 have key:∀(j m:Nat),j<m->j<=k->zb.l0 100000 t (flo t t.length) s.lo s.hi 0 s.rd s.va x y (pf n g) m (((s.va-s.lo+1)*flo t t.length-1)/(s.hi-s.lo+1)-flo t (k-j)) ((k-j:Nat):Int)=some (k:Int):=by
  generalize ((s.va-s.lo+1)*flo t t.length-1)/(s.hi-s.lo+1)=q at hq
  intro j
  induction j with
  | zero =>
   intro m hm _
   obtain ⟨m,rfl⟩:∃q,m=q+1:=⟨m-1,by omega⟩
   rw[Nat.sub_zero]
   show zb.r0 100000 t (flo t t.length) s.lo s.hi 0 s.rd s.va x y (pf n g) (zb.l0 100000 t (flo t t.length) s.lo s.hi 0 s.rd s.va x y (pf n g) m) (q-flo t k) (k:Int)=_
   unfold zb.r0
   have e2:flo t (k+1)=flo t k+t.getD k 0:=rfl
   have hc:decide (q-flo t k>=(t.getD k 0:Int))=false:=decide_eq_false (by omega)
   exact zp ⟨by omega,by omega⟩ (wq hc rfl)
  | succ j ih =>
   intro m hm hj
   obtain ⟨m,rfl⟩:∃q,m=q+1:=⟨m-1,by omega⟩
   have ih:=ih m (by omega) (by omega)
   have e:k-j=k-(j+1)+1:=by omega
   rw[e] at ih
   have hik:k-(j+1)<k:=by omega
   generalize k-(j+1)=i at ih hik ⊢
   show zb.r0 100000 t (flo t t.length) s.lo s.hi 0 s.rd s.va x y (pf n g) (zb.l0 100000 t (flo t t.length) s.lo s.hi 0 s.rd s.va x y (pf n g) m) (q-flo t i) (i:Int)=_
   unfold zb.r0
   have e2:flo t (i+1)=flo t i+t.getD i 0:=rfl
   have hmo:=jc h (show i+1<=k by omega) (by omega)
   have hn0:=vW h (show i<=t.length by omega)
   have hn1:=vW h (show k<=t.length by omega)
   have hle:=jc h (show k+1<=t.length by omega) (Nat.le_refl _)
   have hpi:=h.pos i (by omega)
   have hc:decide (q-flo t i>=(t.getD i 0:Int))=true:=decide_eq_true (by omega)
   refine zp ⟨by omega,by omega⟩ (wI hc (zp ⟨by omega,by omega⟩ ?_))
   have e3:Kd.nth (.int .i64) t (Int.toNat (i:Int))=t.getD i 0:=rfl
   dsimp only
   rw[e3,wT (x:=q-flo t i-t.getD i 0) (by omega) (by omega),kw1 (by omega) (by omega),show q-flo t i-t.getD i 0=q-flo t (i+1) by omega]
   exact ih
 have hk:=key k 100000 (by omega) (Nat.le_refl _)
 rw[Nat.sub_self] at hk
 have e0:flo t 0=0:=rfl
 rw[e0,Int.sub_zero] at hk
 refine wr (Yn h) (wq (beq_eq_false_iff_ne.2 (by omega)) ?_)
 dsimp only
 rw[wT (x:=s.va-s.lo) (by omega) (by omega),wT (x:=s.va-s.lo+1) (by omega) (by omega),wT (x:=(s.va-s.lo+1)*flo t t.length) (by omega) (by omega),wT (x:=(s.va-s.lo+1)*flo t t.length-1) (by omega) (by omega)]
 refine wr (x:=s.hi-s.lo+1) ?_ ?_
 ·unfold qY
  dsimp only
  rw[wT (x:=s.hi-s.lo) (by omega) (by omega),wT (x:=s.hi-s.lo+1) (by omega) (by omega)]
 ·rw[Int.tdiv_eq_ediv_of_nonneg (by omega)]
  have hd0:0<=((s.va-s.lo+1)*flo t t.length-1)/(s.hi-s.lo+1):=Int.ediv_nonneg (by omega) (Int.le_of_lt hW)
  have hd1:((s.va-s.lo+1)*flo t t.length-1)/(s.hi-s.lo+1)<=(s.va-s.lo+1)*flo t t.length-1:=Int.ediv_le_self _ (by omega)
  rw[wT (x:=((s.va-s.lo+1)*flo t t.length-1)/(s.hi-s.lo+1)) (by omega) (by omega)]
  refine zp (by omega) (wr hk (wr (U6 h hf.rn hkl _ _ _ _ _ _) (wr (wr hwd.1 rfl) rfl)))
def xw (β:Nat->Int):Nat->Int
  | 0=>0
  | n+1=>2*xw β n+β n
theorem HL {β:Nat->Int} (h:B01 β) (n:Nat):0<=xw β n/\xw β n<2^n:=by
 induction n with
 | zero=>exact ⟨Int.le_refl _,by show (0:Int)<2^0;decide⟩
 | succ n ih =>
  have e:(2:Int)^(n+1)=2^n*2:=Int.pow_succ _ _
  have:=h.bd n
  unfold xw;omega
theorem HA {n:Nat} {g:Nat->Int} (hg:B01 g) (hn:n<=1000000) (x y:Int):zV 100000 0 x y (pf n g)=some (0,16,xw (eb n g) 16):=by
 refine wr (x:=(16,xw (eb n g) 16)) ?_ rfl
 have key:∀(j m:Nat),j<m->j<=16->zV.l0 100000 x y (pf n g) (imin (imax 0 0) 4096) m ((16-j:Nat):Int) ((16-j:Nat):Int) (xw (eb n g) (16-j))=some (16,xw (eb n g) 16):=by
  intro j
  induction j with
  | zero =>
   intro m hm _
   obtain ⟨m,rfl⟩:∃q,m=q+1:=⟨m-1,by omega⟩
   rfl
  | succ j ih =>
   intro m hm hj
   obtain ⟨m,rfl⟩:∃q,m=q+1:=⟨m-1,by omega⟩
   have ih:=ih m (by omega) (by omega)
   have e:16-j=16-(j+1)+1:=by omega
   rw[e] at ih
   have hi:16-(j+1)<16:=by omega
   generalize 16-(j+1)=i at ih hi ⊢
   show zV.r0 100000 x y (pf n g) (imin (imax 0 0) 4096) (zV.l0 100000 x y (pf n g) (imin (imax 0 0) 4096) m) (i:Int) (i:Int) (xw (eb n g) i)=_
   unfold zV.r0
   have hx:=HL (Kn (n:=n) hg) i
   have hb:=(Kn (n:=n) hg).bd i
   have hp:=JZ (show i<=16 by omega)
   have e16:(2:Int)^16=65536:=by decide
   have ez:imin (imax 0 0) 4096=0:=by decide
   refine wI (decide_eq_true (by omega)) ?_
   dsimp only
   rw[ez]
   refine wr (UC hg hn (by omega) _ _ _ _ _) ?_
   dsimp only
   rw[wT (x:=2*xw (eb n g) i) (by omega) (by omega),wT (x:=2*xw (eb n g) i+eb n g i) (by omega) (by omega),kw1 (by omega) (by omega)]
   rw[ez] at ih
   exact ih
 exact key 16 100000 (by omega) (Nat.le_refl _)
def FS.new (β:Nat->Int):FS:=⟨0,65535,16,xw β 16⟩
theorem GN {β:Nat->Int} (h:B01 β):Fok (FS.new β):=by
 have:=HL h 16
 have e16:(2:Int)^16=65536:=by decide
 exact ⟨⟨Int.le_refl 0,(show (0:Int)<=65535 by decide),Int.le_refl 65535⟩,⟨(show (32768:Int)<=65535 by decide),(show (0:Int)<32768 by decide),.inl (show (0:Int)<16384 by decide)⟩,this.1,by show xw β 16<=65535;omega⟩
end Go.Fo
