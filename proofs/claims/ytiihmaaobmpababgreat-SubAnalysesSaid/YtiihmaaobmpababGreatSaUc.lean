/- The document's shares,whole. -/
import Derived.Test.YtiihmaaobmpababGreatSaUb
namespace Go.Fo
set_option maxRecDepth 6000
theorem YJ (new:Bool) (pool s:Int) (h:Int->Int) (i:Int) (a:Int × (Int->Int)) (c:a.1<pool):mst new pool s h i a=if 2<=a.2 i/\a.2 i<16 then (a.1+1,upd a.2 i (a.2 i+1)) else if new=true/\h i=s+1/\pool>a.1+1 then (a.1+2,upd a.2 i 2) else a:=by
 unfold mst; rw [if_neg (by omega)]
theorem YM {h:Int->Int} {N:Nat} (hN:N<=16) (hr:∀ i:Int,0<=i->i<N->-5<=h i/\h i<=15) {s:Int} (hs:-1000<=s/\s<=1000) (a0:Int × (Int->Int)) (ha:good a0) (p0 p1 p2 p3 p4 p5 p6 p7 p8 p9:Int) (hp:p7<=256):Ok (fun r=>r=((itr N (mst true p7 s h) a0).1,tabv N (itr N (mst true p7 s h) a0).2)) (wh.l1 5000 (tabv N h) s p0 p1 p2 p3 p4 p5 p6 p7 p8 p9 5000 a0.1 0 (tabv N a0.2)):=by
 have hl:=kT N h
 unfold wh.l1
 refine ql (fun u i r=>0<=i/\i<=(N:Int)/\u=(itr i.toNat (mst true p7 s h) a0).1/\r=tabv N (itr i.toNat (mst true p7 s h) a0).2) (fun _ i _=>((N:Int)-i).toNat) _ ?_ 5000 _ _ _ ⟨by omega,by omega,rfl,rfl⟩ (by omega)
 rintro next u i r ⟨g1,g2,g3,rfl⟩ ih
 have hg:=yc true p7 s h hp a0 ha i.toNat
 have hstop:=Qw true p7 s h a0 i.toNat N (by omega)
 have hs1:itr (i.toNat+1) (mst true p7 s h) a0=mst true p7 s h i (itr i.toNat (mst true p7 s h) a0):=by rw [JT,show ((i.toNat:Nat):Int)=i by omega]
 generalize hq:itr i.toNat (mst true p7 s h) a0=q at *
 subst g3
 refine Ok.ite (fun d=>?_) (fun d=>Ok.some ?_)
 ·obtain ⟨d1,d2⟩:=xA d
  have d1:i<((tabv N h).length:Int):=dt d1
  have d2:q.1<p7:=dt d2
  rw [hl] at d1
  have hv:=hr i g1 d1
  have hi:=hg.2 i
  have hu:=hg.1
  have hll:=kT N q.2
  have hat:Kd.nth (.int .i64) (tabv N h) (Int.toNat i)=h i:=yd N h i g1 d1
  have hat2:Kd.nth (.int .i64) (tabv N q.2) (Int.toNat i)=q.2 i:=yd N q.2 i g1 d1
  have k1:=kp1 (x:=s) (by omega) (by omega)
  have k2:=kp1 (x:=q.1) (by omega) (by omega)
  have k3:=kp1 (x:=q.2 i) (by omega) (by omega)
  have k4:wb .i64 (q.1+2)=q.1+2:=zY (by omega) (by omega)
  have e:=YJ true p7 s h i q d2
  refine Ok.bind (Q:=fun r=>r=((mst true p7 s h i q).1,tabv N (mst true p7 s h i q).2)) ?_ ?_
  ·dsimp only
   rw [hat2]
   refine Ok.gd ⟨g1,by rw [hll]; exact d1,by rw [hll]; omega,fun _=>g1,fun _=>by rw [hll]; exact d1,fun _=>by rw [hll]; omega⟩ (Ok.ite (fun c=>?_) (fun c=>?_))
   ·obtain ⟨c1,c2⟩:=xA c
    have c1:q.2 i>=2:=dt c1
    have c2:q.2 i<=15:=dt c2
    rw [k2,k3]
    refine Ok.gd ⟨g1,by rw [hll]; exact d1,by rw [hll]; omega,g1,by rw [hll]; exact d1,by rw [hll]; omega⟩ (Ok.some ?_)
    rw [e,if_pos ⟨c1,by omega⟩,Wj,show ((i.toNat:Nat):Int)=i by omega]; rfl
   ·have hn:¬ (2<=q.2 i/\q.2 i<16):=by
     rintro ⟨x,y⟩
     rw [decide_eq_true (by omega:q.2 i>=2),decide_eq_true (by omega:q.2 i<=15)] at c
     cases c
    rw [hat,k1,k2,k4]
    refine Ok.gd ⟨g1,by rw [hl]; exact d1⟩ (Ok.ite (fun c=>?_) (fun c=>Ok.some ?_))
    ·obtain ⟨c1,c2⟩:=xA c
     have c1:h i=s+1:=by simpa using c1
     have c2:q.1+1<p7:=dt c2
     refine Ok.gd ⟨g1,by rw [hll]; exact d1,by rw [hll]; omega⟩ (Ok.some ?_)
     rw [e,if_neg hn,if_pos ⟨rfl,c1,by omega⟩,Wj,show ((i.toNat:Nat):Int)=i by omega]; rfl
    ·have hn2:¬ (true=true/\h i=s+1/\p7>q.1+1):=by
      rintro ⟨_,x,y⟩
      rw [show (h i==s+1)=true by simpa using x,decide_eq_true (by omega:q.1+1<p7)] at c
      cases c
     rw [e,if_neg hn,if_neg hn2]
  ·rintro _ rfl
   have ek:=kp1 (x:=i) (by omega) (by omega)
   refine ih _ _ _ ⟨by omega,by omega,?_,?_⟩ (by omega)
   ·rw [ek,show (i+1).toNat=i.toNat+1 by omega,hs1]
   ·rw [ek,show (i+1).toNat=i.toNat+1 by omega,hs1]
 ·rcases vT d with d | d
  ·have d:¬ i<((tabv N h).length:Int):=df d
   rw [hl] at d
   rw [show N=i.toNat by omega,hq]
  ·have d:¬ q.1<p7:=df d
   rw [hstop (by omega)]
theorem Yn {h:Int->Int} {N:Nat} (hN:N<=16) {s:Int} (a0:Int × (Int->Int)) (ha:good a0) (p0 p1 p2 p3 p4 p5 p6 p7 p8 p9:Int) (hp:p7<=256):Ok (fun r=>r=tabv N (itr N (mst false p7 s h) a0).2) (wh.l0 5000 (tabv N h) p0 p1 p2 p3 p4 p5 p6 p7 p8 p9 5000 a0.1 0 (tabv N a0.2)):=by
 have hl:=kT N h
 unfold wh.l0
 refine ql (fun u i r=>0<=i/\i<=(N:Int)/\u=(itr i.toNat (mst false p7 s h) a0).1/\r=tabv N (itr i.toNat (mst false p7 s h) a0).2) (fun _ i _=>((N:Int)-i).toNat) _ ?_ 5000 _ _ _ ⟨by omega,by omega,rfl,rfl⟩ (by omega)
 rintro next u i r ⟨g1,g2,g3,rfl⟩ ih
 have hg:=yc false p7 s h hp a0 ha i.toNat
 have hstop:=Qw false p7 s h a0 i.toNat N (by omega)
 have hs1:itr (i.toNat+1) (mst false p7 s h) a0=mst false p7 s h i (itr i.toNat (mst false p7 s h) a0):=by rw [JT,show ((i.toNat:Nat):Int)=i by omega]
 generalize hq:itr i.toNat (mst false p7 s h) a0=q at *
 subst g3
 refine Ok.ite (fun d=>?_) (fun d=>Ok.some ?_)
 ·obtain ⟨d1,d2⟩:=xA d
  have d1:i<((tabv N h).length:Int):=dt d1
  have d2:q.1<p7:=dt d2
  rw [hl] at d1
  have hi:=hg.2 i
  have hu:=hg.1
  have hll:=kT N q.2
  have hat2:Kd.nth (.int .i64) (tabv N q.2) (Int.toNat i)=q.2 i:=yd N q.2 i g1 d1
  have k2:=kp1 (x:=q.1) (by omega) (by omega)
  have k3:=kp1 (x:=q.2 i) (by omega) (by omega)
  have e:=YJ false p7 s h i q d2
  refine Ok.bind (Q:=fun r=>r=((mst false p7 s h i q).1,tabv N (mst false p7 s h i q).2)) ?_ ?_
  ·dsimp only
   rw [hat2]
   refine Ok.gd ⟨g1,by rw [hll]; exact d1,by rw [hll]; omega,fun _=>g1,fun _=>by rw [hll]; exact d1,fun _=>by rw [hll]; omega⟩ (Ok.ite (fun c=>?_) (fun c=>Ok.some ?_))
   ·obtain ⟨c1,c2⟩:=xA c
    have c1:q.2 i>=2:=dt c1
    have c2:q.2 i<=15:=dt c2
    rw [k2,k3]
    refine Ok.gd ⟨g1,by rw [hll]; exact d1,by rw [hll]; omega,g1,by rw [hll]; exact d1,by rw [hll]; omega⟩ (Ok.some ?_)
    rw [e,if_pos ⟨c1,by omega⟩,Wj,show ((i.toNat:Nat):Int)=i by omega]; rfl
   ·have hn:¬ (2<=q.2 i/\q.2 i<16):=by
     rintro ⟨x,y⟩
     rw [decide_eq_true (by omega:q.2 i>=2),decide_eq_true (by omega:q.2 i<=15)] at c
     cases c
    rw [e,if_neg hn,if_neg (by rintro ⟨x,_⟩; cases x)]
  ·rintro _ rfl
   have ek:=kp1 (x:=i) (by omega) (by omega)
   refine ih _ _ _ ⟨by omega,by omega,?_,?_⟩ (by omega)
   ·rw [ek,show (i+1).toNat=i.toNat+1 by omega,hs1]
   ·rw [ek,show (i+1).toNat=i.toNat+1 by omega,hs1]
 ·rcases vT d with d | d
  ·have d:¬ i<((tabv N h).length:Int):=df d
   rw [hl] at d
   rw [show N=i.toNat by omega,hq]
  ·have d:¬ q.1<p7:=df d
   rw [hstop (by omega)]
theorem Yr {p0 p1 p2 p3 p4 p5 p6 p7 p8 p9:Int} {l:List (List Int)} (hf:Fit p0 p1 p2 p3 p4 p5 p6 p7 p8 p9 l) (C B:Nat) (hC:(C:Int)=p2) (hB:(B:Int)=p3) {a b:Int} (hc:Yy (hN p0 p1 p2 p3 p4 p5 p6 p7 p8 p9 l) (B*C) p7 a b) (hb:0<=b/\b<=p7):Ok (fun r=>r=tabv (B*C) (shr (hN p0 p1 p2 p3 p4 p5 p6 p7 p8 p9 l) (B*C) p7 a b).2) (wh 5000 p0 p1 p2 p3 p4 p5 p6 p7 p8 p9 l):=by
 have h2:=(fit hf).2.1
 have h3:=(fit hf).2.2.1
 have hN:B*C<=16:=by rcases (show C=1\/C=2 by omega) with rfl | rfl<;>omega
 have hN1:1<=B*C:=by rcases (show C=1\/C=2 by omega) with rfl | rfl<;>omega
 have hr:=Vp hf C B hC hB
 have hp1:2<=p7:=hf.1.1.2.2.2.2.2.2.2.2.1
 have hp2:p7<=250:=hf.1.1.2.2.2.2.2.2.2.2.2.1
 have hp:p7<=16*(B*C:Nat):=by
  have:=hf.1.1.2.2.2.2.2.2.2.2.2.2.1
  rcases (show C=1\/C=2 by omega) with rfl | rfl<;>(rw [<-hC,<-hB] at this; omega)
 refine Ok.bind (X8 hf C B hC hB) ?_
 rintro _ rfl
 generalize Go.Fo.hN p0 p1 p2 p3 p4 p5 p6 p7 p8 p9 l=h at *
 generalize B*C=N at *
 have hl:=kT N h
 refine Ok.gd (by rw [hl]; omega) (Ok.bind (U5 hN hN1 hr p0 p1 p2 p3 p4 p5 p6 p7 p8 p9) ?_)
 rintro mx ⟨hm,hm1,hm2⟩
 have k1:=kp1 (x:=mx) (by omega) (by omega)
 dsimp only
 rw [k1]
 refine Ok.bind (uo hN hr p0 p1 p2 p3 p4 p5 p6 p7 p8 p9 ⟨by omega,hp⟩ hm ⟨hm1,hm2⟩) ?_
 rintro ⟨s,t,c⟩ ⟨e1,e2,e3,e4,e5,e6⟩
 obtain rfl:t=tot h N s:=e1
 obtain rfl:c=cst h N s:=e2
 have e3:tot h N s<p7:=e3
 have e4:p7<=tot h N s+cst h N s:=e4
 have e5:-30<=s:=e5
 have e6:s<=15:=e6
 obtain ⟨s',f1,f2,f3⟩:=hc
 have hs:=uI e3 e4 f1 f2
 subst hs
 have r1:=KC h N s
 have r2:=ZU h N s
 have k2:wb .i64 (tot h N s+cst h N s)=tot h N s+cst h N s:=zY (by omega) (by omega)
 have k3:wb .i64 (s-1)=s-1:=zY (by omega) (by omega)
 dsimp only
 rw [k2,k3]
 refine Ok.bind (Q:=fun r=>r=(a,b)) (Ok.ite (fun c=>Ok.some ?_) (fun c=>Ok.some ?_)) ?_
 ·have c:tot h N s+cst h N s=p7:=by simpa using c
  rcases f3 with ⟨_,rfl,rfl⟩ | ⟨x,_⟩
  ·rfl
  ·exact absurd c x
 ·have c:¬ tot h N s+cst h N s=p7:=by simpa using c
  rcases f3 with ⟨x,_⟩ | ⟨_,rfl,rfl⟩
  ·exact absurd x c
  ·rfl
 rintro _ rfl
 have ha:-1000<=a/\a<=1000:=by omega
 have hz:List.replicate (Int.toNat ((tabv N h).length:Int)) (0:Int)=tabv N (fun _=>0):=by
  rw [hl]
  apply List.ext_getElem
  ·simp [tabv]
  ·intro i h1 h2; simp [tabv]
 dsimp only
 rw [hz]
 refine Ok.gd ⟨by omega,by omega,by rw [hl]; omega⟩ (Ok.bind (Uu hN hr ha b p0 p1 p2 p3 p4 p5 p6 p7 p8 p9) ?_)
 rintro _ rfl
 have g0:good (b,(itr N (sset h a) (b,fun _=>0)).2):=⟨⟨hb.1,by show b<=1000; omega⟩,fun j=>Ju h a b N j⟩
 refine Ok.bind (YM hN hr ha _ g0 p0 p1 p2 p3 p4 p5 p6 p7 p8 p9 (by omega)) ?_
 rintro _ rfl
 refine Ok.bind (Yn hN (s:=a) _ (yc true p7 a h (by omega) _ g0 N) p0 p1 p2 p3 p4 p5 p6 p7 p8 p9 (by omega)) ?_
 rintro _ rfl
 exact Ok.some rfl
end Go.Fo
