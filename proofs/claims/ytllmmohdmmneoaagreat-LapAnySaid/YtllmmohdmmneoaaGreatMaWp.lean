/- Tables of the bank,lappers: they come to results. -/
import Derived.Test.YtllmmohdmmneoaaGreatMaWo
namespace Go.Fo
set_option maxRecDepth 6000
theorem Hh (b a:Int):Ok (fun _=>True) (ye 100000 b a):=by
 refine Ok.ite (fun _=>Ok.some trivial) (fun c=>?_)
 obtain ⟨c1,c2⟩:=xF c
 have c1:=df c1;have c2:=df c2
 refine Ok.bind (Qi b (by omega)) (fun g _=>?_)
 dsimp only
 rw[wT (x:=4*a) (by omega) (by omega)]
 exact Ok.bind (QG _ (by omega) (by omega)) (fun _ _=>Ok.some trivial)
theorem gZ (b a:Int):Ok (fun _=>True) (xE 100000 b a):=by
 refine Ok.ite (fun _=>Ok.some trivial) (fun c=>?_)
 obtain ⟨c1,c2⟩:=xF c
 have c1:=df c1;have c2:=df c2
 exact Ok.bind (QG _ (by omega) (by omega)) (fun _ _=>Ok.some trivial)
theorem YU (a b:Int):Ok (fun _=>True) (k9 100000 a b):=Ok.bind (gZ _ _) (fun _ _=>Ok.some trivial)
theorem U3 (a b:Int):Ok (fun _=>True) (jl 100000 a b):=Ok.bind (Hh _ _) (fun _ _=>Ok.some trivial)

theorem VL {n:Int} (h0:1<=n) (h1:n<=2000) {t0 t1:List (Option Li)} (hl:t0.length+t1.length=387) (e f:Int):Ok (fun r=>r.1.length=n.toNat) (qh 100000 t0 t1 e f n n):=by
 refine Ok.gd ⟨by omega,Int.le_refl _,by omega⟩ (Ok.bind (Q:=fun l=>l.length=n.toNat) ?_ (fun l hl2=>Ok.bind (Ok.gd hl (Ok.some (P:=fun _=>True) trivial)) (fun _ _=>Ok.some hl2)))
 unfold qh.l0
 refine qo (fun a l=>0<=a/\a<=n/\l.length=n.toNat) (fun a _=>(n-a).toNat) _ ?_ 100000 _ _ ⟨by omega,by omega,by simp⟩ (by omega)
 rintro next a l ⟨g1,g2,g3⟩ ih
 refine Ok.ite (fun c=>?_) (fun _=>Ok.some g3)
 have c:=dt c
 rw[List.length_replicate] at c
 have e:=kw1 (x:=a) (by omega) (by omega)
 refine Ok.bind (YU _ _) (fun v _=>Ok.gd ⟨g1,by omega⟩ (Ok.gd (by omega) (ih _ _ ⟨by omega,by omega,by rw[List.length_set];exact g3⟩ (by omega))))
theorem Uf {j:Nat} (hj:j<388) {n:Int} (h0:1<=n) (h1:n<=2000) {b:List (Option Li)} (hb:b.length=388) (hm:∀m,b[j]? = some (some m)->m.length=n.toNat) (d f:Int):Ok (fun r=>r.1.length=n.toNat/\r.2.1.length=388/\∀i m,r.2.1[i]? = some (some m)->(i=j/\m.length=n.toNat)\/b[i]? = some (some m)) (qZ 100000 (j*4) n b d f n):=by
 unfold qZ
 have e4:j*4/4=j:=by omega
 rw[e4]
 refine Ok.gd ⟨hb,rfl,hj⟩ ?_
 have hl:(b.take j).length+(b.drop (j+1)).length=387:=by rw[List.length_take,List.length_drop];omega
 have hcl:∀l:Li,l.length=n.toNat->wO 100000 l=some l:=fun l hl=>zp (fun e=>by rw[e] at hl;simp at hl;omega) (zp (by show ((0:Int)+(l.length:Int))*2<=_;omega) rfl)
 split
 ·refine Ok.bind (Q:=fun r=>r.1.length=n.toNat/\r.2.1.length=n.toNat) ?_ ?_
  ·refine Ok.bind (Q:=fun r=>r.1.length=n.toNat) (Ok.bind (Ok.some (P:=fun _=>True) trivial) (fun _ _=>Ok.bind (VL h0 h1 hl d f) (fun r hr=>Ok.some hr))) ?_
   rintro ⟨l,q⟩ hq
   have hq:l.length=n.toNat:=hq
   refine Ok.bind (Ok.gd hl (Ok.some (P:=fun _=>True) trivial)) (fun _ _=>?_)
   exact Ok.bind (Ok.is (hcl l hq)) (fun r hr=>Ok.some ⟨by rw[hr];exact hq,hq⟩)
  ·rintro ⟨q0,q1,q2,q3⟩ ⟨hq0,hq1⟩
   refine Ok.some ⟨hq0,?_,fun i m hi=>?_⟩
   ·show (b.take j++some q1::b.drop (j+1)).length=388
    rw[List.length_append,List.length_cons];omega
   ·have hi:(b.take j++some q1::b.drop (j+1))[i]? = some (some m):=hi
    have htj:(b.take j).length=j:=by rw[List.length_take];omega
    by_cases q:i<j
    ·rw[List.getElem?_append_left (by omega),List.getElem?_take,if_pos q] at hi
     exact .inr hi
    ·rw[List.getElem?_append_right (by omega),htj] at hi
     by_cases e:i=j
     ·rw[e,Nat.sub_self] at hi
      have hi:some (some q1)=some (some m):=hi
      injection hi with hi;injection hi with hi
      exact .inl ⟨e,by rw[<-hi];exact hq1⟩
     ·obtain ⟨k,hk⟩:∃k,i-j=k+1:=⟨i-j-1,by omega⟩
      rw[hk,List.getElem?_cons_succ,List.getElem?_drop,show j+1+k=i by omega] at hi
      exact .inr hi
 ·rename_i l hx
  have hll:=hm l hx
  refine Ok.bind (Q:=fun r=>r.1=l) ?_ ?_
  ·refine Ok.bind (Ok.bind (Ok.some (P:=fun _=>True) trivial) (fun _ _=>Ok.some (P:=fun _=>True) trivial)) (fun _ _=>?_)
   refine Ok.bind (Ok.gd hl (Ok.some (P:=fun _=>True) trivial)) (fun _ _=>?_)
   exact Ok.bind (Ok.is (hcl l hll)) (fun r hr=>Ok.some hr)
  ·rintro ⟨q0,q1⟩ hq
   have hq:q0=l:=hq
   exact Ok.some ⟨by rw[hq];exact hll,hb,fun i m hi=>.inr hi⟩
 ·rename_i hx
  rw[List.getElem?_eq_none_iff] at hx
  omega

theorem ua {n:Int} (h0:1<=n) (h1:n<=2000) {t0 t1:List (Option Li)} (hl:t0.length+t1.length=387) (e f:Int):Ok (fun r=>r.1.length=n.toNat) (z6 100000 t0 t1 e f n n):=by
 refine Ok.gd ⟨by omega,Int.le_refl _,by omega⟩ (Ok.bind (Q:=fun l=>l.length=n.toNat) ?_ (fun l hl2=>Ok.bind (Ok.gd hl (Ok.some (P:=fun _=>True) trivial)) (fun _ _=>Ok.some hl2)))
 unfold z6.l0
 refine qo (fun a l=>0<=a/\a<=n/\l.length=n.toNat) (fun a _=>(n-a).toNat) _ ?_ 100000 _ _ ⟨by omega,by omega,by simp⟩ (by omega)
 rintro next a l ⟨g1,g2,g3⟩ ih
 refine Ok.ite (fun c=>?_) (fun _=>Ok.some g3)
 have c:=dt c
 rw[List.length_replicate] at c
 have e:=kw1 (x:=a) (by omega) (by omega)
 refine Ok.bind (U3 _ _) (fun v _=>Ok.gd ⟨g1,by omega⟩ (Ok.gd (by omega) (ih _ _ ⟨by omega,by omega,by rw[List.length_set];exact g3⟩ (by omega))))
theorem uc {j:Nat} (hj:j<388) {n:Int} (h0:1<=n) (h1:n<=2000) {b:List (Option Li)} (hb:b.length=388) (hm:∀m,b[j]? = some (some m)->m.length=n.toNat) (d f:Int):Ok (fun r=>r.1.length=n.toNat/\r.2.1.length=388/\∀i m,r.2.1[i]? = some (some m)->(i=j/\m.length=n.toNat)\/b[i]? = some (some m)) (qW 100000 (j*4) n b d f n):=by
 unfold qW
 have e4:j*4/4=j:=by omega
 rw[e4]
 refine Ok.gd ⟨hb,rfl,hj⟩ ?_
 have hl:(b.take j).length+(b.drop (j+1)).length=387:=by rw[List.length_take,List.length_drop];omega
 have hcl:∀l:Li,l.length=n.toNat->wO 100000 l=some l:=fun l hl=>zp (fun e=>by rw[e] at hl;simp at hl;omega) (zp (by show ((0:Int)+(l.length:Int))*2<=_;omega) rfl)
 split
 ·refine Ok.bind (Q:=fun r=>r.1.length=n.toNat/\r.2.1.length=n.toNat) ?_ ?_
  ·refine Ok.bind (Q:=fun r=>r.1.length=n.toNat) (Ok.bind (Ok.some (P:=fun _=>True) trivial) (fun _ _=>Ok.bind (ua h0 h1 hl d f) (fun r hr=>Ok.some hr))) ?_
   rintro ⟨l,q⟩ hq
   have hq:l.length=n.toNat:=hq
   refine Ok.bind (Ok.gd hl (Ok.some (P:=fun _=>True) trivial)) (fun _ _=>?_)
   exact Ok.bind (Ok.is (hcl l hq)) (fun r hr=>Ok.some ⟨by rw[hr];exact hq,hq⟩)
  ·rintro ⟨q0,q1,q2,q3⟩ ⟨hq0,hq1⟩
   refine Ok.some ⟨hq0,?_,fun i m hi=>?_⟩
   ·show (b.take j++some q1::b.drop (j+1)).length=388
    rw[List.length_append,List.length_cons];omega
   ·have hi:(b.take j++some q1::b.drop (j+1))[i]? = some (some m):=hi
    have htj:(b.take j).length=j:=by rw[List.length_take];omega
    by_cases q:i<j
    ·rw[List.getElem?_append_left (by omega),List.getElem?_take,if_pos q] at hi
     exact .inr hi
    ·rw[List.getElem?_append_right (by omega),htj] at hi
     by_cases e:i=j
     ·rw[e,Nat.sub_self] at hi
      have hi:some (some q1)=some (some m):=hi
      injection hi with hi;injection hi with hi
      exact .inl ⟨e,by rw[<-hi];exact hq1⟩
     ·obtain ⟨k,hk⟩:∃k,i-j=k+1:=⟨i-j-1,by omega⟩
      rw[hk,List.getElem?_cons_succ,List.getElem?_drop,show j+1+k=i by omega] at hi
      exact .inr hi
 ·rename_i l hx
  have hll:=hm l hx
  refine Ok.bind (Q:=fun r=>r.1=l) ?_ ?_
  ·refine Ok.bind (Ok.bind (Ok.some (P:=fun _=>True) trivial) (fun _ _=>Ok.some (P:=fun _=>True) trivial)) (fun _ _=>?_)
   refine Ok.bind (Ok.gd hl (Ok.some (P:=fun _=>True) trivial)) (fun _ _=>?_)
   exact Ok.bind (Ok.is (hcl l hll)) (fun r hr=>Ok.some hr)
  ·rintro ⟨q0,q1⟩ hq
   have hq:q0=l:=hq
   exact Ok.some ⟨by rw[hq];exact hll,hb,fun i m hi=>.inr hi⟩
 ·rename_i hx
  rw[List.getElem?_eq_none_iff] at hx
  omega

def Bk (n:Int) (b:List (Option Li)):Prop:=b.length=388/\(∀m,b[257+(n/2).toNat]? = some (some m)->m.length=(n/2).toNat)/\∀m,b[(2*n).toNat]? = some (some m)->m.length=(8*n).toNat
theorem UW (n:Int):Bk n (List.replicate 388 none):=⟨by simp,fun m h=>(by rw[List.getElem?_replicate] at h;split at h<;>cases h),fun m h=>(by rw[List.getElem?_replicate] at h;split at h<;>cases h)⟩
theorem yp {n:Int} (h:vj n):40<=n/\n<=120/\n%20=0/\n/2*2=n/\n/4*4=n:=by rcases h with rfl|rfl|rfl|rfl<;>decide
theorem HH {n:Int} (h:vj n):z9 100000 [40,60,80,120] n=some true:=by rcases h with rfl|rfl|rfl|rfl<;>kernel_rfl
theorem Un {n:Int} (h:vj n):w8 100000 [32767] (n/4)=some (List.replicate (n/4).toNat 32767):=by rcases h with rfl|rfl|rfl|rfl<;>kernel_rfl
theorem K9 (l:Li) (hl:l.length<=90000):Ok (fun r=>r.length=l.length) (wN 100000 l):=by
 unfold wN
 dsimp only
 rw[wT (by omega) (by omega)]
 refine Ok.bind (Q:=fun r=>r.length=l.length) ?_ (fun r hr=>Ok.some hr)
 unfold wN.l0
 refine y7 (fun a b d=>0<=a/\a+b=(l.length:Int)-1/\b<=(l.length:Int)/\d.length=l.length) (fun a b _=>((l.length:Int)+1-a).toNat) _ ?_ 100000 _ _ _ ⟨by omega,by omega,by omega,rfl⟩ (by omega)
 rintro next a b d ⟨g1,g2,g3,g4⟩ ih
 refine Ok.ite (fun c=>?_) (fun _=>Ok.some g4)
 have c:=dt c
 have e:=kw1 (x:=a) (by omega) (by omega)
 have e2:wb .i64 (b-1)=b-1:=wT (by omega) (by omega)
 refine Ok.gd ⟨by omega,by omega⟩ (Ok.gd (by omega) (Ok.gd ⟨by omega,by omega⟩ (Ok.gd (by omega) (Ok.gd ⟨by omega,by omega⟩ (Ok.gd (by omega) (Ok.gd ⟨by omega,by rw[List.length_set];omega⟩ (Ok.gd (by rw[List.length_set];omega) (ih _ _ _ ⟨by omega,by omega,by omega,by rw[List.length_set,List.length_set];exact g4⟩ (by omega)))))))))
theorem Vp {n:Int} (h:vj n) {b:List (Option Li)} (hb:Bk n b) (d e:Int):Ok (fun r=>r.1.length=(n/2).toNat/\r.2.1=0/\Bk n r.2.2.1) (k7 100000 (n/2) b d e):=by
 have hn:=yp h
 unfold k7
 have hmay:zj 100000 (bif decide (n/2>=1) then decide (n/2<=128) else false) b d e=some (.inr ()):=by
  rw[decide_eq_true (show n/2>=1 by omega),decide_eq_true (show n/2<=128 by omega)];rfl
 refine Ok.bind (Ok.is hmay) ?_
 rintro _ rfl
 refine Ok.gd ⟨by omega,by omega⟩ ?_
 rw[show 1028+Int.toNat (n/2)*4=(257+(n/2).toNat)*4 by omega]
 refine Ok.bind (Uf (by omega) (by omega) (by omega) hb.1 hb.2.1 d e) ?_
 rintro ⟨j,k,l,m⟩ ⟨h1,h2,h3⟩
 refine Ok.some ⟨h1,rfl,h2,fun m hm=>?_,fun m hm=>?_⟩
 ·rcases h3 _ m hm with ⟨_,q⟩|q
  ·exact q
  ·exact hb.2.1 m q
 ·rcases h3 _ m hm with ⟨q,_⟩|q
  ·omega
  ·exact hb.2.2 m q
theorem GH {n:Int} (h:vj n) {b:List (Option Li)} (hb:Bk n b) (d e:Int):Ok (fun r=>r.1.length=(8*n).toNat/\r.2.1=0/\Bk n r.2.2.1) (jn 100000 (8*n) b d e):=by
 have hn:=yp h
 have e4:Int.tmod (8*n) 4=0:=by rcases h with rfl|rfl|rfl|rfl<;>decide
 have ed:Int.tdiv (8*n) 4=2*n:=by rcases h with rfl|rfl|rfl|rfl<;>decide
 unfold jn
 dsimp only
 rw[e4,ed,wT (x:=2*n) (by omega) (by omega)]
 have hmay:zj 100000 (bif (bif decide (8*n>=4) then decide (8*n<=1024) else false) then ((0:Int)==0) else false) b d e=some (.inr ()):=by
  rw[decide_eq_true (show 8*n>=4 by omega),decide_eq_true (show 8*n<=1024 by omega)];rfl
 refine Ok.bind (Ok.is hmay) ?_
 rintro _ rfl
 refine Ok.gd ⟨by omega,by omega⟩ ?_
 rw[show 0+Int.toNat (2*n)*4=(2*n).toNat*4 by omega]
 refine Ok.bind (uc (by omega) (by omega) (by omega) hb.1 hb.2.2 d e) ?_
 rintro ⟨j,k,l,m⟩ ⟨h1,h2,h3⟩
 refine Ok.some ⟨h1,rfl,h2,fun m hm=>?_,fun m hm=>?_⟩
 ·rcases h3 _ m hm with ⟨q,_⟩|q
  ·omega
  ·exact hb.2.1 m q
 ·rcases h3 _ m hm with ⟨_,q⟩|q
  ·exact q
  ·exact hb.2.2 m q
theorem Hl {n:Int} (h:vj n) {b:List (Option Li)} (hb:Bk n b) (d e:Int):Ok (fun r=>r.1=n/\r.2.1.length=(2*n).toNat/\r.2.2.1.length=(8*n).toNat/\r.2.2.2.1=0/\Bk n r.2.2.2.2.1) (xV 100000 n b d e):=by
 have hn:=yp h
 have ed2:Int.tdiv n 2=n/2:=Int.tdiv_eq_ediv_of_nonneg (by omega)
 have ed4:Int.tdiv n 4=n/4:=Int.tdiv_eq_ediv_of_nonneg (by omega)
 refine Ok.bind (Q:=fun r=>r.1.length=(2*n).toNat/\r.2.1=0/\Bk n r.2.2.1) ?_ ?_
 ·refine Ok.bind (Ok.some (P:=fun _=>True) trivial) (fun _ _=>?_)
  refine Ok.bind (Ok.is (HH h)) ?_
  rintro _ rfl
  refine Ok.ite (fun c=>by cases c) (fun _=>?_)
  rw[ed2,ed4,wT (x:=n/2) (by omega) (by omega),wT (x:=n/4) (by omega) (by omega),wT (x:=2*n) (by omega) (by omega)]
  refine Ok.bind (Vp h hb d e) ?_
  rintro ⟨dl,j,k,l,m⟩ ⟨h1,h2,h3⟩
  have h1:dl.length=(n/2).toNat:=h1
  have h2:j=0:=h2
  have h3:Bk n k:=h3
  subst h2
  refine Ok.ite (fun c=>by cases c) (fun _=>?_)
  refine Ok.gd ⟨by omega,by omega,by omega⟩ (Ok.gd (by rw[List.length_replicate];omega) ?_)
  refine Ok.bind (Ok.is (Un h)) ?_
  rintro _ rfl
  have hfl:((List.replicate (Int.toNat (n/4)) (0:Int)++dl)++List.replicate (n/4).toNat 32767).length=n.toNat:=by rw[List.length_append,List.length_append,List.length_replicate,List.length_replicate];omega
  refine Ok.gd (by rw[List.length_append,List.length_replicate,List.length_replicate];omega) ?_
  generalize ((List.replicate (Int.toNat (n/4)) (0:Int)++dl)++List.replicate (n/4).toNat 32767)=f at *
  refine Ok.bind (Ok.is (show qn 100000 f=some f from zp (fun e=>by rw[e] at hfl;simp at hfl;omega) (zp (by show ((0:Int)+(f.length:Int))*2<=_;omega) rfl))) ?_
  intro u hu
  rw[hu]
  refine Ok.bind (K9 f (by omega)) ?_
  intro p hp
  refine Ok.gd (by omega) (Ok.some ⟨?_,rfl,h3⟩)
  show (f++p).length=_
  rw[List.length_append];omega
 ·rintro ⟨j,b2,d2,e2,f2⟩ ⟨h1,h2,h3⟩
  have h1:j.length=(2*n).toNat:=h1
  have h2:b2=0:=h2
  have h3:Bk n d2:=h3
  subst h2
  refine Ok.ite (fun c=>by cases c) (fun _=>?_)
  rw[wT (x:=8*n) (by omega) (by omega)]
  refine Ok.bind (GH h h3 e2 f2) ?_
  rintro ⟨l,m,n2,o,p⟩ ⟨g1,g2,g3⟩
  exact Ok.some ⟨rfl,h1,g1,g2,g3⟩
theorem QC {n:Int} (h:vj n) {b:List (Option Li)} (hb:Bk n b) (d e:Int):Ok (fun z=>match z with|.inl _=>False|.inr (b2,_,_,s,wi,tu,ol)=>Bk n b2/\s=n/\wi.length=(2*n).toNat/\tu.length=(8*n).toNat/\ol.length=n.toNat) (wE 100000 n b d e):=by
 have hn:=yp h
 refine Ok.bind (Hl h hb d e) ?_
 rintro ⟨j,k,l,e2,b2,m1,m2⟩ ⟨h1,h2,h3,h4,h5⟩
 have h4:e2=0:=h4
 subst h4
 refine Ok.ite (fun c=>by cases c) (fun _=>Ok.gd ⟨by omega,Int.le_refl _,by omega⟩ (Ok.some ⟨h5,h1,h2,h3,by simp⟩))
def Mth (n:Int) (s:Int) (wi tu co ol:Li):Prop:=s=n/\wi.length=(2*n).toNat/\tu.length=(8*n).toNat/\co.length=79/\ol.length=n.toNat
theorem GI (p0 p1 p2 p3 p4 p5 p6 p7 p8 p9:Int):Ok (fun z=>match z with|.inl e=>e≠0|.inr (.inl (_,_,_,s,wi,tu,co,ol))=>LapF p0 p1 p2 p3 p4 p5 p6 p7 p8 p9/\kj 100000 p0 p1 p2 p3 p4 p5 p6 p7 p8 p9=some 0/\p2=1/\Mth p8 s wi tu co ol|.inr (.inr (_,_,_,s,wi,tu,co,s2,wi2,tu2,co2,ol,ol2))=>LapF p0 p1 p2 p3 p4 p5 p6 p7 p8 p9/\kj 100000 p0 p1 p2 p3 p4 p5 p6 p7 p8 p9=some 0/\p2=2/\Mth p8 s wi tu co ol/\Mth p8 s2 wi2 tu2 co2 ol2) (wJ 100000 p0 p1 p2 p3 p4 p5 p6 p7 p8 p9 (List.replicate 388 none) 0 0):=by
 refine Ok.bind (uF p0 p1 p2 p3 p4 p5 p6 p7 p8 p9).isR ?_
 rintro g ⟨hm,hg⟩
 refine Ok.ite (fun c=>Ok.some (by show g≠0;simpa using c)) (fun c=>?_)
 have c:g=0:=by simpa using c
 subst c
 have hl:LapF p0 p1 p2 p3 p4 p5 p6 p7 p8 p9:=by rcases hg with ⟨_,h⟩|h;exact h;cases h
 have h79:(List.replicate 79 (0:Int)).length=79:=by simp
 refine Ok.ite (fun c=>?_) (fun c=>?_)
 ·have c:p2=1:=by simpa using c
  refine Ok.bind (QC hl.ln (UW p8) 0 0) ?_
  intro z hz
  cases z with
  | inl z=>exact hz.elim
  | inr z =>
   obtain ⟨b2,m1,m2,s,wi,tu,ol⟩:=z
   obtain ⟨_,h1,h2,h3,h4⟩:=hz
   exact Ok.bind (Ok.is (show qy 100000=some (List.replicate 79 0) from rfl)) (fun r hr=>Ok.some ⟨hl,hm,c,h1,h2,h3,by rw[hr];exact h79,h4⟩)
 ·have c:p2≠1:=by simpa using c
  have c2:p2=2:=by have:=hl.ch;omega
  refine Ok.ite (fun _=>?_) (fun d=>by rw[c2] at d;cases d)
  refine Ok.bind (QC hl.ln (UW p8) 0 0) ?_
  intro z hz
  cases z with
  | inl z=>exact hz.elim
  | inr z =>
   obtain ⟨b2,m1,m2,s,wi,tu,ol⟩:=z
   obtain ⟨h0,h1,h2,h3,h4⟩:=hz
   refine Ok.bind (Ok.is (show qy 100000=some (List.replicate 79 0) from rfl)) ?_
   rintro _ rfl
   refine Ok.bind (QC hl.ln h0 m1 m2) ?_
   intro z hz
   cases z with
   | inl z=>exact hz.elim
   | inr z =>
    obtain ⟨b3,m3,m4,s2,wi2,tu2,ol2⟩:=z
    obtain ⟨_,g1,g2,g3,g4⟩:=hz
    exact Ok.bind (Ok.is (show qy 100000=some (List.replicate 79 0) from rfl)) (fun r hr=>Ok.some ⟨hl,hm,c2,⟨h1,h2,h3,h79,h4⟩,g1,g2,g3,by rw[hr];exact h79,g4⟩)
end Go.Fo
