/- The document's shares: what is shared. -/
import Derived.Test.YtiihmaaobmpababGreatSaUa
namespace Go.Fo
set_option maxRecDepth 6000
theorem xA {a b:Bool} (h:(bif a then b else false)=true):a=true/\b=true:=by cases a; cases h; exact ⟨rfl,h⟩
theorem vT {a b:Bool} (h:(bif a then b else false)=false):a=false\/b=false:=by cases a; exact .inl rfl; exact .inr h
theorem Ya {h:Int->Int} {N:Nat} {s:Int} (hN:N<=16) (hr:∀ i:Int,0<=i->i<N->-5<=h i/\h i<=15) (hs:-1000<=s/\s<=1000):Ok (fun r=>r=cst h N s) (z6 5000 (tabv N h) s):=by
 have hl:=kT N h
 refine Ok.bind (Q:=fun r=>r=cst h N s) ?_ (fun r hr=>Ok.some hr)
 unfold z6.l0
 refine wA (fun a i=>0<=i/\i<=(N:Int)/\a=itr i.toNat (fun i a=>a+wt (h i-s)) 0) (fun _ i=>((N:Int)-i).toNat) _ ?_ 5000 _ _ ⟨by omega,by omega,rfl⟩ (by omega)
 rintro next a i ⟨g1,g2,g3⟩ ih
 refine Ok.ite (fun d=>?_) (fun d=>Ok.some ?_)
 ·have d:=dt d
  have d:i<(N:Int):=by rw [hl] at d; exact d
  have hv:=hr i g1 d
  have ha:=Xa h s i.toNat
  rw [<-g3] at ha
  have hat:Kd.nth (.int .i64) (tabv N h) (Int.toNat i)=h i:=yd N h i g1 d
  have k1:=kp1 (x:=s) (by omega) (by omega)
  have k2:wb .i64 (s+16)=s+16:=zY (by omega) (by omega)
  refine Ok.bind (Q:=fun x=>x=a+wt (h i-s)) ?_ ?_
  ·refine Ok.gd ⟨g1,by rw [hl]; exact d⟩ ?_
   dsimp only
   rw [hat,k1,k2]
   refine Ok.bind (Q:=fun x=>x=if h i=s+1 then a+2 else a) (Ok.ite (fun c=>Ok.some ?_) (fun c=>Ok.some ?_)) ?_
   ·rw [if_pos (by simpa using c)]; exact zY (by omega) (by omega)
   ·rw [if_neg (by simpa using c)]
   ·rintro _ rfl
    refine Ok.gd ⟨g1,by rw [hl]; exact d,fun _=>g1,fun _=>by rw [hl]; exact d⟩ (Ok.ite (fun c=>Ok.some ?_) (fun c=>Ok.some ?_))
    ·obtain ⟨c1,c2⟩:=xA c
     have c1:h i>s+1:=dt c1
     have c2:h i<s+16:=dt c2
     rw [if_neg (by omega),zY (by omega) (by omega)]
     unfold wt
     rw [show (h i-s==1)=false by simp; omega,decide_eq_true (by omega:h i-s>1),decide_eq_true (by omega:h i-s<16)]; rfl
    ·unfold wt
     by_cases e:h i=s+1
     ·rw [if_pos e,show (h i-s==1)=true by simp; omega]; rfl
     ·rw [if_neg e,show (h i-s==1)=false by simp; omega]
      rcases vT c with c | c
      ·have c:¬ h i>s+1:=df c
       rw [decide_eq_false (by omega:¬ h i-s>1)]
       show a=a+0; omega
      ·have c:¬ h i<s+16:=df c
       rw [decide_eq_false (by omega:¬ h i-s<16)]
       cases decide (h i-s>1)<;>(show a=a+0; omega)
  ·rintro _ rfl
   have e:=kp1 (x:=i) (by omega) (by omega)
   refine ih _ _ ⟨by omega,by omega,?_⟩ (by omega)
   rw [e,show (i+1).toNat=i.toNat+1 by omega,JT,<-g3,show ((i.toNat:Nat):Int)=i by omega]
 ·have d:=df d
  rw [hl] at d
  rw [g3,show i.toNat=N by omega]; rfl
theorem U5 {h:Int->Int} {N:Nat} (hN:N<=16) (h0:1<=N) (hr:∀ i:Int,0<=i->i<N->-5<=h i/\h i<=15) (p0 p1 p2 p3 p4 p5 p6 p7 p8 p9:Int):Ok (fun r=>(∀ i:Int,0<=i->i<N->h i<=r)/\-5<=r/\r<=15) (wh.l4 5000 (tabv N h) p0 p1 p2 p3 p4 p5 p6 p7 p8 p9 5000 (Kd.nth (.int .i64) (tabv N h) 0) 1):=by
 have hl:=kT N h
 have hz:Kd.nth (.int .i64) (tabv N h) 0=h 0:=yd N h 0 (by omega) (by omega)
 have h00:=hr 0 (by omega) (by omega)
 unfold wh.l4
 refine wA (fun a i=>1<=i/\i<=(N:Int)/\(∀ j:Int,0<=j->j<i->h j<=a)/\-5<=a/\a<=15) (fun _ i=>((N:Int)-i).toNat) _ ?_ 5000 _ _ ⟨by omega,by omega,fun j j0 j1=>by rw [show j=0 by omega,hz]; exact Int.le_refl _,by rw [hz]; exact h00.1,by rw [hz]; exact h00.2⟩ (by omega)
 rintro next a i ⟨g1,g2,g3,g4,g5⟩ ih
 refine Ok.ite (fun d=>?_) (fun d=>Ok.some ⟨fun j j0 j1=>g3 j j0 (by have:=df d; rw [hl] at this; omega),g4,g5⟩)
 have d:=dt d
 rw [hl] at d
 have hv:=hr i (by omega) d
 have hat:Kd.nth (.int .i64) (tabv N h) (Int.toNat i)=h i:=yd N h i (by omega) d
 have e:=kp1 (x:=i) (by omega) (by omega)
 refine Ok.gd ⟨by omega,by rw [hl]; exact d⟩ ?_
 dsimp only
 rw [hat,e]
 refine ih _ _ ⟨by omega,by omega,fun j j0 j1=>?_,?_,?_⟩ (by omega)
 ·by_cases q:j<i
  ·have:=g3 j j0 q
   unfold imax; split<;>omega
  ·rw [show j=i by omega]; unfold imax; split<;>omega
 ·unfold imax; split<;>omega
 ·unfold imax; split<;>omega
theorem uo {h:Int->Int} {N:Nat} (hN:N<=16) (hr:∀ i:Int,0<=i->i<N->-5<=h i/\h i<=15) (p0 p1 p2 p3 p4 p5 p6 p7 p8 p9:Int) (hp:1<=p7/\p7<=16*N) {mx:Int} (hm:∀ i:Int,0<=i->i<N->h i<=mx) (hm2:-5<=mx/\mx<=15):Ok (fun r=>r.2.1=tot h N r.1/\r.2.2=cst h N r.1/\tot h N r.1<p7/\p7<=tot h N r.1+cst h N r.1/\-30<=r.1/\r.1<=15) (wh.l3 5000 (tabv N h) p0 p1 p2 p3 p4 p5 p6 p7 p8 p9 5000 (mx+1) 0 0):=by
 have ht0:=Zn h mx N hm
 unfold wh.l3
 refine ql (fun s u v=>-22<=s-1/\s<=16/\u+v=tot h N (s-1)/\tot h N (s-1)<p7) (fun s _ _=>(s+40).toNat) _ ?_ 5000 _ _ _ ⟨by omega,by omega,by rw [show mx+1-1=mx by omega,ht0]; rfl,by rw [show mx+1-1=mx by omega,ht0]; omega⟩ (by omega)
 rintro next s u v ⟨g1,g2,g3,g4⟩ ih
 have t1:=Zb h (s-1) N
 have r1:=KC h N (s-1)
 have r2:=ZU h N (s-1)
 have e1:wb .i64 (s-1)=s-1:=zY (by omega) (by omega)
 have e2:wb .i64 (u+v)=tot h N (s-1):=by rw [g3]; exact zY (by omega) (by omega)
 unfold wh.r3
 dsimp only
 rw [e1,e2]
 refine Ok.bind (Ya hN hr (by omega)) ?_
 rintro _ rfl
 rw [zY (x:=tot h N (s-1)+cst h N (s-1)) (by omega) (by omega)]
 refine Ok.ite (fun c=>Ok.some ⟨rfl,rfl,g4,dt c,by show -30<=s-1; omega,by show s-1<=15; omega⟩) (fun c=>?_)
 have c:=df c
 have h3:-21<=s-1:=by
  by_cases q:s-1<=-21
  ·have:=WW h N (s-1) hr q; omega
  ·omega
 exact ih _ _ _ ⟨by omega,by omega,by rw [t1],by rw [t1]; omega⟩ (by omega)
theorem Zf (h:Int->Int) (N:Nat) (s:Int):∀ k:Nat,tot h N s<=tot h N (s-k)
 | 0=>by rw [show s-((0:Nat):Int)=s by omega]; exact Int.le_refl _
 | k+1=>by
  have ih:=Zf h N s k
  have t:=Zb h (s-k) N
  have r:=ZU h N (s-k)
  rw [show s-((k+1:Nat):Int)=s-k-1 by omega,t]; omega
theorem uI {h:Int->Int} {N:Nat} {pool s t:Int} (h1:tot h N s<pool) (h2:pool<=tot h N s+cst h N s) (k1:tot h N t<pool) (k2:pool<=tot h N t+cst h N t):s=t:=by
 have a:=Zb h s N
 have b:=Zb h t N
 by_cases c:s<t
 ·have:=Zf h N (t-1) (t-1-s).toNat
  rw [show t-1-((t-1-s).toNat:Int)=s by omega] at this
  omega
 ·by_cases c2:t<s
  ·have:=Zf h N (s-1) (s-1-t).toNat
   rw [show s-1-((s-1-t).toNat:Int)=t by omega] at this
   omega
  ·omega
theorem Uu {h:Int->Int} {N:Nat} (hN:N<=16) (hr:∀ i:Int,0<=i->i<N->-5<=h i/\h i<=15) {s:Int} (hs:-1000<=s/\s<=1000) (b:Int) (p0 p1 p2 p3 p4 p5 p6 p7 p8 p9:Int):Ok (fun r=>r=tabv N (itr N (sset h s) (b,fun _=>0)).2) (wh.l2 5000 (tabv N h) s b p0 p1 p2 p3 p4 p5 p6 p7 p8 p9 5000 0 (tabv N (fun _=>0))):=by
 have hl:=kT N h
 unfold wh.l2
 refine wA (fun i r=>0<=i/\i<=(N:Int)/\r=tabv N (itr i.toNat (sset h s) (b,fun _=>0)).2) (fun i _=>((N:Int)-i).toNat) _ ?_ 5000 _ _ ⟨by omega,by omega,rfl⟩ (by omega)
 rintro next i r ⟨g1,g2,rfl⟩ ih
 refine Ok.ite (fun d=>?_) (fun d=>Ok.some ?_)
 ·have d:=dt d
  rw [hl] at d
  have hv:=hr i g1 d
  have hat:Kd.nth (.int .i64) (tabv N h) (Int.toNat i)=h i:=yd N h i g1 d
  have k2:wb .i64 (s+2)=s+2:=zY (by omega) (by omega)
  have k3:wb .i64 (h i-s)=h i-s:=zY (by omega) (by omega)
  have hll:=fun g:Int->Int=>kT N g
  refine Ok.bind (Q:=fun r=>r=tabv N (itr (i.toNat+1) (sset h s) (b,fun _=>0)).2) ?_ ?_
  ·refine Ok.gd ⟨g1,by rw [hl]; exact d⟩ ?_
   dsimp only
   rw [hat,k2,k3]
   have e:(itr (i.toNat+1) (sset h s) (b,fun _=>0)).2=if h i>=s+2 then upd (itr i.toNat (sset h s) (b,fun _=>0)).2 i (imin (h i-s) 16) else (itr i.toNat (sset h s) (b,fun _=>0)).2:=by
    rw [JT]
    unfold sset
    rw [show ((i.toNat:Nat):Int)=i by omega]
   refine Ok.ite (fun c=>Ok.gd ⟨g1,by rw [hl]; exact d,g1,by rw [hll]; exact d,by rw [hll]; omega⟩ (Ok.some ?_)) (fun c=>Ok.some ?_)
   ·rw [e,if_pos (dt c),Wj,show ((i.toNat:Nat):Int)=i by omega]; rfl
   ·rw [e,if_neg (df c)]
  ·rintro _ rfl
   have e:=kp1 (x:=i) (by omega) (by omega)
   refine ih _ _ ⟨by omega,by omega,?_⟩ (by omega)
   rw [e,show (i+1).toNat=i.toNat+1 by omega]
 ·have d:=df d
  rw [hl] at d
  rw [show i.toNat=N by omega]
end Go.Fo
