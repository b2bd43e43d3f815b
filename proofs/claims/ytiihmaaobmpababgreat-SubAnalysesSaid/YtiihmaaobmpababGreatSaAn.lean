/- The whole share. -/
import Derived.Test.YtiihmaaobmpababGreatSaAm
namespace Go.Fo
set_option maxRecDepth 6000
def mst (new:Bool) (pool s:Int) (h:Int->Int) (i:Int) (a:Int × (Int->Int)):Int × (Int->Int) :=
  if a.1>=pool then a else if 2<=a.2 i/\a.2 i<16 then (a.1+1,upd a.2 i (a.2 i+1)) else if new=true/\h i=s+1/\pool>a.1+1 then (a.1+2,upd a.2 i 2) else a
theorem QT (new:Bool) (pool s:Int) (h:Int->Int) (a:Int × (Int->Int)) (b:Nat) (hb:(itr b (mst new pool s h) a).1>=pool):∀ k:Nat,itr (b+k) (mst new pool s h) a=itr b (mst new pool s h) a
 | 0=>rfl
 | k+1=>by
  have ih:=QT new pool s h a b hb k
  show mst new pool s h _ (itr (b+k) (mst new pool s h) a)=_
  rw [ih]; exact if_pos hb
def good (a:Int × (Int->Int)):Prop:=(0<=a.1/\a.1<=1000)/\∀ j,0<=a.2 j/\a.2 j<=16
theorem YB (new:Bool) (pool s:Int) (h:Int->Int) (hp:pool<=256) (i:Int) (a:Int × (Int->Int)) (ha:good a):good (mst new pool s h i a):=by
 obtain ⟨h1,h2⟩:=ha
 unfold mst
 have hi:=h2 i
 by_cases c1:a.1>=pool
 ·rw [if_pos c1]; exact ⟨h1,h2⟩
 ·rw [if_neg c1]
  by_cases c2:2<=a.2 i/\a.2 i<16
  ·rw [if_pos c2]
   refine ⟨⟨by show 0<=a.1+1; omega,by show a.1+1<=1000; omega⟩,fun j=>?_⟩
   show 0<=(if j=i then a.2 i+1 else a.2 j)/\(if j=i then a.2 i+1 else a.2 j)<=16
   have:=h2 j; split<;>omega
  ·rw [if_neg c2]
   by_cases c3:new=true/\h i=s+1/\pool>a.1+1
   ·rw [if_pos c3]
    refine ⟨⟨by show 0<=a.1+2; omega,by show a.1+2<=1000; omega⟩,fun j=>?_⟩
    show 0<=(if j=i then 2 else a.2 j)/\(if j=i then 2 else a.2 j)<=16
    have:=h2 j; split<;>omega
   ·rw [if_neg c3]; exact ⟨h1,h2⟩
theorem yc (new:Bool) (pool s:Int) (h:Int->Int) (hp:pool<=256) (a:Int × (Int->Int)) (ha:good a):∀ n:Nat,good (itr n (mst new pool s h) a)
 | 0=>ha
 | n+1=>YB new pool s h hp n _ (yc new pool s h hp a ha n)

theorem uh (new:Bool) (need pool s sum:Int) (z:Int->Int) (C B b c:Nat) (hC:C=1\/C=2) (hc:c<C) (hb:b<B) (hn:-5<=need/\need<=15) (hs:-1000<=s/\s<=1000) (hsum:0<=sum/\sum<=1000) (hz:0<=z ((b*C+c:Nat):Int)/\z ((b*C+c:Nat):Int)<=16) (rows:List (List Int)) :
  qx 5000 need b ((rw_ C B z).getD c []) new pool s sum rows (rw_ C B z) c =
  some (if sum>=pool then (false,sum,rw_ C B z) else if 2<=z ((b*C+c:Nat):Int)/\z ((b*C+c:Nat):Int)<16 then (true,sum+1,rw_ C B (upd z ((b*C+c:Nat):Int) (z ((b*C+c:Nat):Int)+1))) else if new=true/\need=s+1/\pool>sum+1 then (true,sum+2,rw_ C B (upd z ((b*C+c:Nat):Int) 2)) else (true,sum,rw_ C B z)):=by
 have hl:b<((rw_ C B z).getD c []).length:=by rw [vv hc]; exact hb
 have ha:Kd.nth (.int .i64) ((rw_ C B z).getD c []) b=z ((b*C+c:Nat):Int):=vd hc hb
 have hset:∀ v,(rw_ C B z).set c (((rw_ C B z).getD c []).set b v)=rw_ C B (upd z ((b*C+c:Nat):Int) v):=fun v=>by rw [QN hc]; exact Y0 hC hc v
 have hsame:=WX (B:=B) (z:=z) hc
 generalize z ((b*C+c:Nat):Int)=v at *
 by_cases c1:sum>=pool
 ·rw [if_pos c1]; refine wJ (wQ (decide_eq_true c1) rfl) ?_; rw [hsame]
 ·rw [if_neg c1]
  have e1:wb .i64 (sum+1)=sum+1:=qA (by omega) (by omega)
  have e2:wb .i64 (sum+2)=sum+2:=qA (by omega) (by omega)
  have e3:wb .i64 (s+1)=s+1:=qA (by omega) (by omega)
  have e4:wb .i64 (v+1)=v+1:=qA (by omega) (by omega)
  unfold qx
  dsimp only
  rw [ha,e1,e2,e3,e4,hset,hset,hsame]
  by_cases c2:2<=v/\v<16
  ·rw [if_pos c2]
   refine wJ (wM (decide_eq_false c1) (qi ⟨hl,fun _=>hl⟩ (wQ ?_ (qi ⟨hl,hl⟩ rfl)))) rfl
   rw [decide_eq_true (show v>=2 from c2.1),decide_eq_true c2.2]; rfl
  ·rw [if_neg c2]
   have c2':(bif decide (v>=2) then decide (v<16) else false)=false:=by
    by_cases q:v>=2
    ·rw [decide_eq_true q,decide_eq_false (by omega)]; rfl
    ·rw [decide_eq_false q]; rfl
   by_cases c3:new=true/\need=s+1/\pool>sum+1
   ·rw [if_pos c3]
    refine wJ (wM (decide_eq_false c1) (qi ⟨hl,fun _=>hl⟩ (wM c2' (wQ ?_ (qi hl rfl))))) rfl
    rw [c3.1,c3.2.1,decide_eq_true c3.2.2]; simp
   ·rw [if_neg c3]
    refine wJ (wM (decide_eq_false c1) (qi ⟨hl,fun _=>hl⟩ (wM c2' (wM ?_ rfl)))) rfl
    cases new with
    | false=>rfl
    | true =>
     by_cases q:need=s+1
     ·rw [decide_eq_false (by intro q2; exact c3 ⟨rfl,q,q2⟩)]; cases (need==s+1)<;>rfl
     ·rw [show (need==s+1)=false by simpa using q]; rfl
theorem Qw (new:Bool) (pool s:Int) (h:Int->Int) (a:Int × (Int->Int)) (b n:Nat) (hn:b<=n) (hb:(itr b (mst new pool s h) a).1>=pool):itr n (mst new pool s h) a=itr b (mst new pool s h) a:=by
 have:=QT new pool s h a b hb (n-b)
 rwa [show b+(n-b)=n by omega] at this
theorem UT (new:Bool) (h:Int->Int) (pool s:Int) (C B:Nat) (hC:C=1\/C=2) (b:Nat) (hb:b<B) (a0:Int × (Int->Int)) (ha:good a0) (hp:pool<=256) (hr:∀ i:Int,0<=i->i<(B*C:Nat)->-5<=h i/\h i<=15) (hs:-1000<=s/\s<=1000) (k:Nat):∀ (m c:Nat),k<m->c+k=C →
  ∃ z,wu.l1 5000 (b:Int) (B:Int) (C:Int) pool s (rw_ C B h) new m c (itr (b*C+c) (mst new pool s h) a0).1 (rw_ C B (itr (b*C+c) (mst new pool s h) a0).2)=some z ∧
   (z=.inl ((itr (b*C+C) (mst new pool s h) a0).1,rw_ C B (itr (b*C+C) (mst new pool s h) a0).2)\/z=.inr ((itr (b*C+C) (mst new pool s h) a0).1,rw_ C B (itr (b*C+C) (mst new pool s h) a0).2)/\(itr (b*C+C) (mst new pool s h) a0).1>=pool):=by
 induction k with
 | zero =>
  intro m c hm hc
  obtain ⟨m,rfl⟩:∃ q,m=q+1:=⟨m-1,by omega⟩
  have hq:c=C:=by omega
  refine ⟨.inl ((itr (b*C+C) (mst new pool s h) a0).1,rw_ C B (itr (b*C+C) (mst new pool s h) a0).2),?_,.inl rfl⟩
  show wu.r1 5000 (b:Int) (B:Int) (C:Int) pool s (rw_ C B h) new (wu.l1 5000 (b:Int) (B:Int) (C:Int) pool s (rw_ C B h) new m) c (itr (b*C+c) (mst new pool s h) a0).1 (rw_ C B (itr (b*C+c) (mst new pool s h) a0).2)=_
  refine wM (decide_eq_false (by omega)) ?_
  rw [hq]
 | succ k ih =>
  intro m c hm hc
  obtain ⟨m,rfl⟩:∃ q,m=q+1:=⟨m-1,by omega⟩
  have ih':=ih m (c+1) (by omega) (by omega)
  have hg:=yc new pool s h hp a0 ha (b*C+c)
  have hst:=Qw new pool s h a0 (b*C+c) (b*C+C) (by omega)
  have hn:itr (b*C+(c+1)) (mst new pool s h) a0=mst new pool s h ((b*C+c:Nat):Int) (itr (b*C+c) (mst new pool s h) a0):=rfl
  rw [hn] at ih'
  clear hn ih
  have hbc:b*C+c<B*C:=by rcases hC with rfl | rfl<;>omega
  have hm1:=uh new (at' (row (rw_ C B h) c) b) pool s (itr (b*C+c) (mst new pool s h) a0).1 (itr (b*C+c) (mst new pool s h) a0).2 C B b c hC (by omega) hb (by rw [vd (by omega) hb]; exact hr _ (by omega) (by omega)) hs hg.1 (hg.2 _) (rw_ C B h)
  rw [vd (z:=h) (c:=c) (b:=b) (by omega) hb] at hm1
  have step:∀ (r:Bool × Int × List (List Int)) z,qx 5000 (h ((b*C+c:Nat):Int)) b ((rw_ C B (itr (b*C+c) (mst new pool s h) a0).2).getD c []) new pool s (itr (b*C+c) (mst new pool s h) a0).1 (rw_ C B h) (rw_ C B (itr (b*C+c) (mst new pool s h) a0).2) c=some r →
    (bif !r.1 then some (.inr (r.2.1,r.2.2)) else wu.l1 5000 (b:Int) (B:Int) (C:Int) pool s (rw_ C B h) new m ((c+1:Nat):Int) r.2.1 r.2.2)=z →
    wu.l1 5000 (b:Int) (B:Int) (C:Int) pool s (rw_ C B h) new (m+1) c (itr (b*C+c) (mst new pool s h) a0).1 (rw_ C B (itr (b*C+c) (mst new pool s h) a0).2)=z:=by
   rintro ⟨r1,r2,r3⟩ z hr1 hz
   show wu.r1 5000 (b:Int) (B:Int) (C:Int) pool s (rw_ C B h) new (wu.l1 5000 (b:Int) (B:Int) (C:Int) pool s (rw_ C B h) new m) c _ _=_
   rw [<-vd (z:=h) (c:=c) (b:=b) (by omega) hb] at hr1
   refine wQ (decide_eq_true (by omega)) (qi ⟨cnn c,ltl (jn C B h) (by omega)⟩ (qi ⟨cnn b,ltl (yI (z:=h) (c:=c) (by omega)) hb⟩ (qi ⟨cnn c,ltl (jn C B _) (by omega)⟩ (qi (ltn (jn C B _) (by omega)) (qi ⟨cnn b,ltl (vv (c:=c) (by omega)) hb⟩ (wJ hr1 ?_))))))
   dsimp only
   rw [kwc (n:=C) (by omega) (by omega)]
   exact hz
  have e0:mst new pool s h ((b*C+c:Nat):Int) (itr (b*C+c) (mst new pool s h) a0)=(if (itr (b*C+c) (mst new pool s h) a0).1>=pool then itr (b*C+c) (mst new pool s h) a0 else _):=rfl
  generalize itr (b*C+c) (mst new pool s h) a0=a at *
  by_cases c1:a.1>=pool
  ·rw [if_pos c1] at hm1
   rw [hst c1]
   exact ⟨.inr (a.1,rw_ C B a.2),step _ _ hm1 rfl,.inr ⟨rfl,c1⟩⟩
  ·rw [if_neg c1] at hm1
   rw [if_neg c1] at e0
   obtain ⟨z,hz1,hz2⟩:=ih'
   refine ⟨z,?_,hz2⟩
   rw [<-hz1]
   rw [e0]
   by_cases c2:2<=a.2 ((b*C+c:Nat):Int)/\a.2 ((b*C+c:Nat):Int)<16
   ·rw [if_pos c2] at hm1; rw [if_pos c2]; exact step _ _ hm1 rfl
   ·rw [if_neg c2] at hm1; rw [if_neg c2]
    by_cases c3:new=true/\h ((b*C+c:Nat):Int)=s+1/\pool>a.1+1
    ·rw [if_pos c3] at hm1; rw [if_pos c3]; exact step _ _ hm1 rfl
    ·rw [if_neg c3] at hm1; rw [if_neg c3]; exact step _ _ hm1 rfl
theorem GR (new:Bool) (h:Int->Int) (pool s:Int) (C B:Nat) (hC:C=1\/C=2) (hB:B<=8) (a0:Int × (Int->Int)) (ha:good a0) (hp:pool<=256) (hr:∀ i:Int,0<=i->i<(B*C:Nat)->-5<=h i/\h i<=15) (hs:-1000<=s/\s<=1000) (k:Nat):∀ (m b:Nat),k<m->b+k=B →
  ∃ z,wu.l0 5000 (B:Int) pool s (rw_ C B h) new m b (itr (b*C) (mst new pool s h) a0).1 (rw_ C B (itr (b*C) (mst new pool s h) a0).2)=some z ∧
   (z=.inl ((itr (B*C) (mst new pool s h) a0).1,rw_ C B (itr (B*C) (mst new pool s h) a0).2)\/z=.inr ((itr (B*C) (mst new pool s h) a0).1,rw_ C B (itr (B*C) (mst new pool s h) a0).2)):=by
 induction k with
 | zero =>
  intro m b hm hc
  obtain ⟨m,rfl⟩:∃ q,m=q+1:=⟨m-1,by omega⟩
  have hq:b=B:=by omega
  refine ⟨.inl ((itr (B*C) (mst new pool s h) a0).1,rw_ C B (itr (B*C) (mst new pool s h) a0).2),?_,.inl rfl⟩
  show wu.r0 5000 (B:Int) pool s (rw_ C B h) new (wu.l0 5000 (B:Int) pool s (rw_ C B h) new m) b _ _=_
  refine wM (decide_eq_false (by omega)) ?_
  rw [hq]
 | succ k ih =>
  intro m b hm hc
  obtain ⟨m,rfl⟩:∃ q,m=q+1:=⟨m-1,by omega⟩
  obtain ⟨z,h1,h2⟩:=UT new h pool s C B hC b (by omega) a0 ha hp hr hs C 5000 0 (by omega) (by omega)
  rw [show ((C:Nat):Int)=(((rw_ C B h).length:Nat):Int) by rw [jn]] at h1
  obtain ⟨z',h3,h4⟩:=ih m (b+1) (by omega) (by omega)
  rw [show (b+1)*C=b*C+C by rw [Nat.add_mul,Nat.one_mul]] at h3
  rcases h2 with rfl | ⟨rfl,h2⟩
  ·refine ⟨z',?_,h4⟩
   show wu.r0 5000 (B:Int) pool s (rw_ C B h) new (wu.l0 5000 (B:Int) pool s (rw_ C B h) new m) b _ _=_
   refine wQ (decide_eq_true (by omega)) (wJ h1 ?_)
   dsimp only
   rw [kwc (n:=B) (by omega) (by omega)]; exact h3
  ·refine ⟨_,?_,.inr (by rw [Qw new pool s h a0 (b*C+C) (B*C) (by rcases hC with rfl | rfl<;>omega) h2])⟩
   show wu.r0 5000 (B:Int) pool s (rw_ C B h) new (wu.l0 5000 (B:Int) pool s (rw_ C B h) new m) b _ _=_
   exact wQ (decide_eq_true (by omega)) (wJ h1 rfl)
theorem hd0 {C B:Nat} {h:Int->Int} (hC:C=1\/C=2):(((Kd.nth (.slice (.int .i64)) (rw_ C B h) 0).length:Nat):Int)=(B:Int)/\(0:Int)<(((rw_ C B h).length:Nat):Int):=by
 have:(row (rw_ C B h) ((0:Nat):Int)).length=B:=yI (by omega)
 exact ⟨congrArg (fun n:Nat=>(n:Int)) this,by rw [jn]; omega⟩
theorem VA (new:Bool) (h:Int->Int) (pool s:Int) (C B:Nat) (hC:C=1\/C=2) (hB:B<=8) (a0:Int × (Int->Int)) (ha:good a0) (hp:pool<=256) (hr:∀ i:Int,0<=i->i<(B*C:Nat)->-5<=h i/\h i<=15) (hs:-1000<=s/\s<=1000) :
  qM 5000 new pool s a0.1 (rw_ C B h) (rw_ C B a0.2)=some ((itr (B*C) (mst new pool s h) a0).1,rw_ C B (itr (B*C) (mst new pool s h) a0).2):=by
 obtain ⟨z,h1,h2⟩:=GR new h pool s C B hC hB a0 ha hp hr hs B 5000 0 (by omega) (by omega)
 rw [Nat.zero_mul] at h1
 refine wJ (x:=((itr (B*C) (mst new pool s h) a0).1,rw_ C B (itr (B*C) (mst new pool s h) a0).2)) (qi (hd0 hC).2 ?_) rfl
 rw [(hd0 hC).1]
 refine wJ h1 ?_
 rcases h2 with rfl | rfl<;>rfl
theorem Qz (h:Int->Int) (a:Int) (z:Int->Int):∀ n,itr n (fun i (a:Int × (Int->Int))=>(imax a.1 (h i),a.2)) (a,z)=(itr n (fun i a=>imax a (h i)) a,z)
 | 0=>rfl
 | n+1=>by show (imax (itr n _ (a,z)).1 (h n),(itr n _ (a,z)).2)=_; rw [Qz h a z n]; rfl
theorem Qi (h:Int->Int) (s a:Int) (z:Int->Int):∀ n,itr n (fun i (a:Int × (Int->Int))=>(a.1+wt (h i-s),a.2)) (a,z)=(itr n (fun i a=>a+wt (h i-s)) a,z)
 | 0=>rfl
 | n+1=>by show ((itr n _ (a,z)).1+wt (h n-s),(itr n _ (a,z)).2)=_; rw [Qi h s a z n]; rfl
theorem U9 (h:Int->Int) (pool sum:Int) (C B:Nat) (hC:C=1\/C=2) (hB:B<=8) (a:Int) (z:Int->Int):wF 5000 pool a sum (rw_ C B h) (rw_ C B z)=some (itr (B*C) (fun i a=>imax a (h i)) a,rw_ C B z):=by
 have hl:=Zs h pool sum C B hC hB (a,z) (fun b c hb hc=>by
  rw [vd hc hb,Qz]
  show some (imax _ _,_)=some (imax _ _,_)
  rw [WX hc]) B 5000 0 (by omega) (by omega)
 rw [Qz,Qz,Nat.zero_mul] at hl
 refine qi (hd0 hC).2 ?_
 rw [(hd0 hC).1]
 exact wJ hl rfl
theorem JO (h:Int->Int) (pool s sum:Int) (C B:Nat) (hC:C=1\/C=2) (hB:B<=8) (z:Int->Int) (hr:∀ i:Int,0<=i->i<(B*C:Nat)->-5<=h i/\h i<=15) (hs:-1000<=s/\s<=1000):qC 5000 pool s sum (rw_ C B h) (rw_ C B z)=some (cst h (B*C) s,rw_ C B z):=by
 have hl:=WB h pool s sum C B hC hB (0,z) (fun b c hb hc=>by
  have hbc:b*C+c<B*C:=by rcases hC with rfl | rfl<;>omega
  have hh:=hr ((b*C+c:Nat):Int) (by omega) (by omega)
  have hi:=Xa h s (b*C+c)
  rw [vd hc hb,Qi]
  unfold qr
  dsimp only
  rw [WX hc]
  generalize itr (b*C+c) (fun i a=>a+wt (h i-s)) 0=acc at *
  have hbc2:b*C+c<=16:=by rcases hC with rfl | rfl<;>omega
  rw [qA (x:=h ((b*C+c:Nat):Int)-s) (by omega) (by omega),qA (x:=acc+2) (by omega) (by omega),qA (x:=acc+1) (by omega) (by omega)]
  unfold wt
  cases (h ((b*C+c:Nat):Int)-s==1)<;>cases decide (h ((b*C+c:Nat):Int)-s>1)<;>cases decide (h ((b*C+c:Nat):Int)-s<16)<;>simp) B 5000 0 (by omega) (by omega)
 rw [Qi,Qi,Nat.zero_mul] at hl
 refine wJ (x:=(cst h (B*C) s,rw_ C B z)) (qi (hd0 hC).2 ?_) rfl
 rw [(hd0 hC).1]
 exact wJ hl rfl
theorem gf (h:Int->Int) (pool s sum:Int) (C B:Nat) (hC:C=1\/C=2) (hB:B<=8) (a:Int) (z:Int->Int) (hr:∀ i:Int,0<=i->i<(B*C:Nat)->-5<=h i/\h i<=15) (hs:-1000<=s/\s<=1000):wC 5000 pool s sum (rw_ C B h) (rw_ C B z)=some (rw_ C B (itr (B*C) (fun i (a:Int × (Int->Int))=>(a.1,if h i>=s+2 then upd a.2 i (imin (h i-s) 16) else a.2)) (a,z)).2):=by
 have hl:=Wx h pool s sum C B hC hB (a,z) (fun b c hb hc=>by
  have hbc:b*C+c<B*C:=by rcases hC with rfl | rfl<;>omega
  have hh:=hr ((b*C+c:Nat):Int) (by omega) (by omega)
  rw [vd hc hb]
  generalize itr (b*C+c) (fun i (a:Int × (Int->Int))=>(a.1,if h i>=s+2 then upd a.2 i (imin (h i-s) 16) else a.2)) (a,z)=q
  have hl:b<((rw_ C B q.2).getD c []).length:=by rw [vv hc]; exact hb
  unfold kS
  dsimp only
  rw [qA (x:=s+2) (by omega) (by omega),qA (x:=h ((b*C+c:Nat):Int)-s) (by omega) (by omega)]
  by_cases e:h ((b*C+c:Nat):Int)>=s+2
  ·rw [if_pos e]
   refine wJ (wQ (decide_eq_true e) (qi hl rfl)) ?_
   rw [QN hc,Y0 hC hc]
  ·rw [if_neg e]
   refine wJ (wM (decide_eq_false e) rfl) ?_
   rw [WX hc]) B 5000 0 (by omega) (by omega)
 rw [Nat.zero_mul] at hl
 refine qi (hd0 hC).2 ?_
 rw [(hd0 hC).1]
 exact wJ hl rfl
theorem gu (h:Int->Int) (pool:Int) (C B:Nat) (hC:C=1\/C=2) (hB:B<=8) (z:Int->Int) (hr:∀ i:Int,0<=i->i<(B*C:Nat)->-5<=h i/\h i<=15) (hp:0<=pool/\pool<=16*(B*C:Nat)) (k:Nat):∀ (m:Nat) (s:Int),k<m->s+22<=k->s<=15->-22<=s →
  ∃ s',w8.l0 5000 pool (rw_ C B h) m (cst h (B*C) s) s (tot h (B*C) s) (rw_ C B z)=some (cst h (B*C) s',s',tot h (B*C) s',rw_ C B z)/\-22<=s'/\s'<=15/\pool<=tot h (B*C) s'+cst h (B*C) s'/\(tot h (B*C) s'<pool\/s'=s):=by
 have hN:B*C<=16:=by rcases hC with rfl | rfl<;>omega
 induction k with
 | zero =>
  intro m s hm h1 h2 h3
  obtain ⟨m,rfl⟩:∃ q,m=q+1:=⟨m-1,by omega⟩
  have e:=WW h (B*C) s hr (by omega)
  have r2:=ZU h (B*C) s
  refine ⟨s,?_,by omega,h2,by omega,.inr rfl⟩
  show w8.r0 5000 pool (rw_ C B h) (w8.l0 5000 pool (rw_ C B h) m) _ _ _ _=_
  refine wM (decide_eq_false ?_) rfl
  rw [qA (by omega) (by omega)]; omega
 | succ k ih =>
  intro m s hm h1 h2 h3
  obtain ⟨m,rfl⟩:∃ q,m=q+1:=⟨m-1,by omega⟩
  have t1:=Zb h s (B*C)
  have r1:=KC h (B*C) s
  have r2:=ZU h (B*C) s
  by_cases c:tot h (B*C) s+cst h (B*C) s<pool
  ·have hs:-22<=s-1:=by
    by_cases q:s<=-21
    ·have:=WW h (B*C) s hr q; omega
    ·omega
   obtain ⟨s',g1,g2,g3,g4,g5⟩:=ih m (s-1) (by omega) (by omega) (by omega) hs
   refine ⟨s',?_,g2,g3,g4,.inl (by rcases g5 with g5 | rfl<;>omega)⟩
   show w8.r0 5000 pool (rw_ C B h) (w8.l0 5000 pool (rw_ C B h) m) _ _ _ _=_
   unfold w8.r0
   rw [qA (x:=tot h (B*C) s+cst h (B*C) s) (by omega) (by omega),qA (x:=s-1) (by omega) (by omega)]
   refine wQ (decide_eq_true c) (wJ (JO h pool (s-1) _ C B hC hB z hr (by omega)) ?_)
   dsimp only
   rw [<-t1]; exact g1
  ·refine ⟨s,?_,by omega,h2,by omega,.inr rfl⟩
   show w8.r0 5000 pool (rw_ C B h) (w8.l0 5000 pool (rw_ C B h) m) _ _ _ _=_
   refine wM (decide_eq_false ?_) rfl
   rw [qA (by omega) (by omega)]; omega
def Yy (h:Int->Int) (N:Nat) (pool a b:Int):Prop:=∃ s,tot h N s<pool/\pool<=tot h N s+cst h N s/\(tot h N s+cst h N s=pool/\a=s-1/\b=pool\/tot h N s+cst h N s≠pool/\a=s/\b=tot h N s)
theorem ge (h:Int->Int) (pool:Int) (C B:Nat) (hC:C=1\/C=2) (hB:B<=8) (hB1:1<=B) (z:Int->Int) (hr:∀ i:Int,0<=i->i<(B*C:Nat)->-5<=h i/\h i<=15) (hp:1<=pool/\pool<=16*(B*C:Nat)) :
  ∃ a b:Int,w8 5000 pool (-99) 0 (rw_ C B h) (rw_ C B z)=some (a,b,rw_ C B z)/\-30<=a/\a<=15/\0<=b/\b<=pool/\b=tot h (B*C) a/\Yy h (B*C) pool a b:=by
 have hm:=uO h (-99) (by decide) (B*C) hr
 have hge:=uW h (-99) (B*C)
 have hBC:1<=B*C:=by rcases hC with rfl | rfl<;>omega
 have hN:B*C<=16:=by rcases hC with rfl | rfl<;>omega
 have h0:=hr 0 (by omega) (by omega)
 have h1:=hge 0 (by omega) (by omega)
 have t0:tot h (B*C) (itr (B*C) (fun i a=>imax a (h i)) (-99))=0:=Zn h _ (B*C) hge
 have e1:=U9 h pool 0 C B hC hB (-99) z
 generalize itr (B*C) (fun i a=>imax a (h i)) (-99)=mx at *
 obtain ⟨s',g1,g2,g3,g4,g5⟩:=gu h pool C B hC hB z hr ⟨by omega,hp.2⟩ 37 5000 mx (by omega) (by omega) (by omega) (by omega)
 have r1:=KC h (B*C) s'
 have r2:=ZU h (B*C) s'
 have hlt:tot h (B*C) s'<pool:=by rcases g5 with g5 | rfl<;>omega
 rw [t0] at g1
 have pr:∀ y,(bif (wb .i64 (tot h (B*C) s'+cst h (B*C) s')==pool) then some (wb .i64 (s'-1),wb .i64 (tot h (B*C) s'+cst h (B*C) s'),rw_ C B z) else some (s',tot h (B*C) s',rw_ C B z))=y->w8 5000 pool (-99) 0 (rw_ C B h) (rw_ C B z)=y:=by
  intro y hy
  exact wJ e1 (wJ (JO h pool mx 0 C B hC hB z hr (by omega)) (wJ g1 hy))
 rw [qA (x:=tot h (B*C) s'+cst h (B*C) s') (by omega) (by omega),qA (x:=s'-1) (by omega) (by omega)] at pr
 by_cases e:tot h (B*C) s'+cst h (B*C) s'=pool
 ·refine ⟨s'-1,pool,?_,by omega,by omega,by omega,by omega,by rw [Zb]; omega,s',hlt,g4,.inl ⟨e,rfl,rfl⟩⟩
  refine pr _ (wQ (by rw [e]; simp) ?_); rw [e]
 ·exact ⟨s',tot h (B*C) s',pr _ (wM (by simpa using e) rfl),by omega,by omega,r1.1,by omega,rfl,s',hlt,g4,.inr ⟨e,rfl,rfl⟩⟩
end Go.Fo
