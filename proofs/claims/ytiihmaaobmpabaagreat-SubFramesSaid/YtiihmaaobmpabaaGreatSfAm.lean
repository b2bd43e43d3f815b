/- Rows of rows that tell a function; sums over all bands. -/
import Derived.Test.YtiihmaaobmpabaaGreatSfFm
namespace Go.Fo
abbrev row (l:List (List Int)) (j:Int):List Int:=Kd.nth (.slice (.int .i64)) l (Int.toNat j)
abbrev at' (v:List Int) (i:Int):Int:=Kd.nth (.int .i64) v (Int.toNat i)
def tabv (n:Nat) (f:Int->Int):List Int:=(List.range n).map fun i:Nat=>f i
theorem ma (n:Nat) (f:Int->Int):tabv n f++[f n]=tabv (n+1) f:=by unfold tabv; rw [List.range_succ,List.map_append]; rfl
theorem jJ (n:Nat) (f:Int->Int):(tabv n f).length=n:=by simp [tabv]
theorem yT (n:Nat) (f:Int->Int) (i:Int) (h0:0<=i) (h:i<n):at' (tabv n f) i=f i:=by
 unfold at' Kd.nth tabv
 rw [List.getD_eq_getElem?_getD,List.getElem?_eq_getElem (by simp; omega)]
 show (List.map (fun i:Nat=>f i) (List.range n))[i.toNat]'_=f i
 rw [List.getElem_map,List.getElem_range,Int.toNat_of_nonneg h0]
theorem WA (n:Nat) (f:Int->Int) (i:Nat) (v:Int):(tabv n f).set i v=tabv n (fun j=>if j=(i:Int) then v else f j):=by
 apply List.ext_getElem
 ·simp [tabv]
 ·intro k h1 h2
  simp only [tabv,List.getElem_set,List.getElem_map,List.getElem_range]
  by_cases e:i=k
  ·rw [if_pos e,if_pos (by omega)]
  ·rw [if_neg e,if_neg (by omega)]
theorem Km (n:Nat) (f g:Int->Int) (h:∀ j:Int,0<=j->j<n->f j=g j):tabv n f=tabv n g:=by
 unfold tabv
 apply List.map_congr_left
 intro k hk
 have:=List.mem_range.1 hk
 exact h k (by omega) (by omega)
def upd (z:Int->Int) (i v:Int):Int->Int:=fun j=>if j=i then v else z j

def rw_ (C B:Nat) (z:Int->Int):List (List Int):=(List.range C).map fun c:Nat=>tabv B fun b=>z (b*C+c)
theorem j3 (C B:Nat) (z:Int->Int):(rw_ C B z).length=C:=by simp [rw_]
theorem KL {C B:Nat} {z:Int->Int} {c:Nat} (hc:c<C):(rw_ C B z).getD c []=tabv B fun b=>z (b*C+c):=by
 unfold rw_
 rw [List.getD_eq_getElem?_getD,List.getElem?_eq_getElem (by simpa using hc)]
 simp
theorem Un {C B:Nat} {z:Int->Int} {c:Nat} (hc:c<C):row (rw_ C B z) c=tabv B fun b=>z (b*C+c):=KL hc
theorem v4 {C B:Nat} {z:Int->Int} {c:Nat} (hc:c<C):(row (rw_ C B z) c).length=B:=by rw [Un hc,jJ]
theorem v7 {C B:Nat} {z:Int->Int} {c:Nat} (hc:c<C):((rw_ C B z).getD c []).length=B:=by rw [KL hc,jJ]
theorem vN {C B:Nat} {z:Int->Int} {c b:Nat} (hc:c<C) (hb:b<B):at' (row (rw_ C B z) c) b=z ((b*C+c:Nat):Int):=by
 rw [Un hc,yT _ _ _ (by omega) (by omega)]; push_cast; rfl
theorem VO {C B:Nat} {z:Int->Int} {c b:Nat} (hC:C=1\/C=2) (hc:c<C) (v:Int):(rw_ C B z).set c ((tabv B fun b=>z (b*C+c)).set b v)=rw_ C B (upd z ((b*C+c:Nat):Int) v):=by
 apply List.ext_getElem
 ·simp [rw_]
 ·intro k h1 h2
  have hk:k<C:=by simpa [rw_] using h2
  rw [List.getElem_set]
  simp only [rw_,List.getElem_map,List.getElem_range]
  rw [WA]
  by_cases e:c=k
  ·rw [if_pos e]; subst e
   apply Km; intro j _ _
   unfold upd
   by_cases e2:j=(b:Int)
   ·rw [if_pos e2,if_pos (by rw [e2]; push_cast; rfl)]
   ·rw [if_neg e2,if_neg (by rcases hC with rfl | rfl<;>(push_cast; omega))]
  ·rw [if_neg e]
   apply Km; intro j _ _
   unfold upd
   rw [if_neg (by rcases hC with rfl | rfl<;>(push_cast; omega))]
theorem ZE {C B:Nat} {z:Int->Int} {c:Nat} (hc:c<C):(rw_ C B z).set c ((rw_ C B z).getD c [])=rw_ C B z:=by
 apply List.ext_getElem
 ·simp
 ·intro k h1 h2
  rw [List.getElem_set]
  split
  ·rename_i e; subst e
   rw [List.getD_eq_getElem?_getD,List.getElem?_eq_getElem h2]; rfl
  ·rfl
theorem ltl {α:Type} {L:List α} {n c:Nat} (hl:L.length=n) (h:c<n):((c:Nat):Int)<((L.length:Nat):Int):=by rw [hl]; omega
theorem ltn {α:Type} {L:List α} {n c:Nat} (hl:L.length=n) (h:c<n):c<L.length:=by rw [hl]; exact h
theorem cnn (c:Nat):(0:Int)<=((c:Nat):Int):=Int.natCast_nonneg c
theorem kwc {c n:Nat} (h:c<n) (hn:n<=1000000):wa .i64 (((c:Nat):Int)+1)=((c+1:Nat):Int):=by rw [wX (by omega) (by omega)]; push_cast; rfl
def itr {α:Type}:Nat->(Int->α->α)->α->α
  | 0,_,a=>a
  | n+1,F,a=>F n (itr n F a)
def wt (d:Int):Int:=bif d==1 then 2 else bif (bif decide (d>1) then decide (d<16) else false) then 1 else 0
theorem mh (d:Int):0<=wt d/\wt d<=2:=by unfold wt; cases (d==1)<;>cases decide (d>1)<;>cases decide (d<16)<;>decide
theorem Yl (h:Int->Int) (s:Int):∀ n:Nat,0<=itr n (fun i a=>a+wt (h i-s)) 0/\itr n (fun i a=>a+wt (h i-s)) 0<=2*n
 | 0=>⟨Int.le_refl _,Int.le_refl _⟩
 | n+1=>by
  have:=Yl h s n
  have:=mh (h n-s)
  show 0<=itr n (fun i a=>a+wt (h i-s)) 0+wt (h n-s)/\_
  constructor
  ·omega
  ·show itr n (fun i a=>a+wt (h i-s)) 0+wt (h n-s)<=_
   push_cast; omega
theorem gI (h:Int->Int) (a0:Int) (ha:-1000<=a0/\a0<=15):∀ n:Nat,(∀ i:Int,0<=i->i<n->-5<=h i/\h i<=15)->-1000<=itr n (fun i a=>imax a (h i)) a0/\itr n (fun i a=>imax a (h i)) a0<=15
 | 0,_=>ha
 | n+1,hr=>by
  have h1:=gI h a0 ha n (fun i i0 i1=>hr i i0 (by omega))
  have h2:=hr n (by omega) (by omega)
  show -1000<=imax (itr n (fun i a=>imax a (h i)) a0) (h n)/\imax (itr n (fun i a=>imax a (h i)) a0) (h n)<=15
  have g:∀ x y:Int,-1000<=x/\x<=15->-5<=y/\y<=15->-1000<=imax x y/\imax x y<=15:=by intro x y hx hy; unfold imax; split<;>omega
  exact g _ _ h1 h2
def GG (d:Int):Int:=if d<=1 then 0 else if d<=16 then d else 16
theorem mq (d:Int):GG (d+1)=GG d+wt d:=by
 unfold GG wt
 by_cases e1:d=1
 ·subst e1; rfl
 ·rw [show (d==1)=false by simpa using e1]
  by_cases e2:d>1
  ·by_cases e3:d<16
   ·rw [decide_eq_true e2,decide_eq_true e3,if_neg (by omega),if_pos (by omega),if_neg (by omega),if_pos (by omega)]; rfl
   ·rw [decide_eq_true e2,decide_eq_false e3,if_neg (by omega),if_neg (by omega),if_neg (by omega)]
    show (16:Int)=(if d<=16 then d else 16)+0
    split<;>omega
  ·rw [decide_eq_false e2,if_pos (by omega),if_pos (by omega)]; rfl
def cst (h:Int->Int) (N:Nat) (s:Int):Int:=itr N (fun i a=>a+wt (h i-s)) 0
def tot (h:Int->Int) (N:Nat) (s:Int):Int:=itr N (fun i a=>a+GG (h i-s)) 0
theorem QM (h:Int->Int) (N:Nat) (s:Int):0<=cst h N s/\cst h N s<=2*N:=Yl h s N
theorem ZL (h:Int->Int) (s:Int):∀ N:Nat,tot h N (s-1)=tot h N s+cst h N s
 | 0=>rfl
 | N+1=>by
  have ih:=ZL h s N
  have g:=mq (h N-s)
  rw [show h N-s+1=h N-(s-1) by omega] at g
  show tot h N (s-1)+GG (h N-(s-1))=(tot h N s+GG (h N-s))+(cst h N s+wt (h N-s))
  omega
theorem Jf (h:Int->Int):∀ (N:Nat) (s:Int),0<=tot h N s/\tot h N s<=16*N
 | 0,_=>⟨Int.le_refl _,Int.le_refl _⟩
 | N+1,s=>by
  have ih:=Jf h N s
  have g:∀ d,0<=GG d/\GG d<=16:=by intro d; unfold GG; split<;>(try split)<;>omega
  have:=g (h N-s)
  show 0<=tot h N s+GG (h N-s)/\tot h N s+GG (h N-s)<=_
  constructor
  ·omega
  ·push_cast; omega
theorem Zz (h:Int->Int):∀ (N:Nat) (s:Int),(∀ i:Int,0<=i->i<N->-5<=h i/\h i<=15)->s<=-21->tot h N s=16*N
 | 0,_,_,_=>rfl
 | N+1,s,hr,hs=>by
  have ih:=Zz h N s (fun i i0 i1=>hr i i0 (by omega)) hs
  have:=hr N (by omega) (by omega)
  show tot h N s+GG (h N-s)=_
  have g:GG (h N-s)=16:=by unfold GG; split<;>(try split)<;>omega
  rw [ih,g]; push_cast; omega
theorem gT (h:Int->Int) (a0:Int):∀ (N:Nat) (i:Int),0<=i->i<N->h i<=itr N (fun i a=>imax a (h i)) a0
 | 0,i,h0,h1=>by omega
 | N+1,i,h0,h1=>by
  have g:∀ x y:Int,x<=imax x y/\y<=imax x y:=by intro x y; unfold imax; split<;>omega
  have:=g (itr N (fun i a=>imax a (h i)) a0) (h N)
  show h i<=imax (itr N (fun i a=>imax a (h i)) a0) (h N)
  by_cases e:i=N
  ·rw [e]; exact this.2
  ·have:=gT h a0 N i h0 (by omega); omega
theorem Qo (h:Int->Int) (s:Int):∀ (N:Nat),(∀ i:Int,0<=i->i<N->h i<=s)->tot h N s=0
 | 0,_=>rfl
 | N+1,hr=>by
  have ih:=Qo h s N (fun i i0 i1=>hr i i0 (by omega))
  have:=hr N (by omega) (by omega)
  show tot h N s+GG (h N-s)=0
  have g:GG (h N-s)=0:=by unfold GG; split<;>(try split)<;>omega
  rw [ih,g]; rfl
def xI (r B b:Int):Int:=(jL 5000 0 r 0 B 0 0 0 0 0 0 b).getD 0
theorem ut (p0 p1 p2 p3 p4 p5 p6 p7 p8 p9 b:Int) (hr:0<=p1/\p1<=3) (hB:p3=4\/p3=8) (hb:0<=b/\b<p3):jL 5000 p0 p1 p2 p3 p4 p5 p6 p7 p8 p9 b=some (xI p1 p3 b)/\-4<=xI p1 p3 b/\xI p1 p3 b<=2:=by
 have h1:p1=0\/p1=1\/p1=2\/p1=3:=by omega
 rcases hB with rfl | rfl
 ·have h2:b=0\/b=1\/b=2\/b=3:=by omega
  rcases h1 with rfl | rfl | rfl | rfl<;>rcases h2 with rfl | rfl | rfl | rfl<;>exact ⟨rfl,by decide,by decide⟩
 ·have h2:b=0\/b=1\/b=2\/b=3\/b=4\/b=5\/b=6\/b=7:=by omega
  rcases h1 with rfl | rfl | rfl | rfl<;>rcases h2 with rfl | rfl | rfl | rfl | rfl | rfl | rfl | rfl<;>exact ⟨rfl,by decide,by decide⟩
def Zq (r B me s b:Int):Int:=bif me==1 then s else bif s==0 then -5 else bif decide (s-xI r B b>0) then Int.tdiv (s-xI r B b) 2 else s-xI r B b
theorem HI (p0 p1 p2 p3 p4 p5 p6 p7 p8 p9 s b:Int) (hr:0<=p1/\p1<=3) (hB:p3=4\/p3=8) (hb:0<=b/\b<p3) (hs:0<=s/\s<=15):xT 5000 p0 p1 p2 p3 p4 p5 p6 p7 p8 p9 s b=some (Zq p1 p3 p5 s b):=by
 obtain ⟨h1,h2,h3⟩:=ut p0 p1 p2 p3 p4 p5 p6 p7 p8 p9 b hr hB hb
 unfold Zq
 rcases Bool.eq_false_or_eq_true (p5==1) with e | e
 ·rw [e]; exact wO e rfl
 ·rw [e]
  refine wA e ?_
  rcases Bool.eq_false_or_eq_true (s==0) with e2 | e2
  ·rw [e2]; exact wO rfl rfl
  ·rw [e2]
   refine wA rfl (wr h1 ?_)
   dsimp only
   rw [wX (x:=s-xI p1 p3 b) (by omega) (by omega)]
   rcases Bool.eq_false_or_eq_true (decide (s-xI p1 p3 b>0)) with e3 | e3
   ·have h0:s-xI p1 p3 b>0:=of_decide_eq_true e3
    rw [e3]
    refine wr (wO rfl rfl) ?_
    rw [wX (by rw [Int.tdiv_eq_ediv_of_nonneg (by omega)]; omega) (by rw [Int.tdiv_eq_ediv_of_nonneg (by omega)]; omega)]; rfl
   ·rw [e3]; exact wr (wA rfl rfl) rfl
theorem um (r B me s b:Int) (hr:0<=r/\r<=3) (hB:B=4\/B=8) (hb:0<=b/\b<B) (hs:0<=s/\s<=15):-5<=Zq r B me s b/\Zq r B me s b<=15:=by
 obtain ⟨_,h2,h3⟩:=ut 0 r 0 B 0 0 0 0 0 0 b hr hB hb
 unfold Zq
 cases (me==1)
 ·cases e:(s==0)
  ·have e':s≠0:=by simpa using e
   cases e3:decide (s-xI r B b>0)
   ·have:¬ s-xI r B b>0:=of_decide_eq_false e3
    show -5<=s-xI r B b/\s-xI r B b<=15; omega
   ·have:s-xI r B b>0:=of_decide_eq_true e3
    show -5<=Int.tdiv (s-xI r B b) 2/\Int.tdiv (s-xI r B b) 2<=15
    rw [Int.tdiv_eq_ediv_of_nonneg (by omega)]; omega
  ·show -5<=(-5:Int)/\(-5:Int)<=15; decide
 ·show -5<=s/\s<=15; omega

def Fit (p0 p1 p2 p3 p4 p5 p6 p7 p8 p9:Int) (l:List (List Int)):Prop:=yd p0 p1 p2 p3 p4 p5 p6 p7 p8 p9/\(l.length:Int)=p2/\∀ c,0<=c->c<p2->((row l c).length:Int)=p3/\∀ q,0<=q->q<p3->0<=at' (row l c) q/\at' (row l c) q<=15
theorem HA (l:List (List Int)) (n j p0 p1 p2 p3 p4 p5 p6 p7 p8 p9:Int) (hj:0<=j/\j<(l.length:Int)) (hv:((row l j).length:Int)=p3) (hB:p3<=100) (k:Nat):∀ (m:Nat) (i:Int),k<m->0<=i->i+k=p3 →
  (wS.l1 5000 l n j (row l j) ((row l j).length:Int) p0 p1 p2 p3 p4 p5 p6 p7 p8 p9 m i=some (.inl ())/\∀ q,i<=q->q<p3->0<=at' (row l j) q/\at' (row l j) q<=15)\/wS.l1 5000 l n j (row l j) ((row l j).length:Int) p0 p1 p2 p3 p4 p5 p6 p7 p8 p9 m i=some (.inr 1):=by
 induction k with
 | zero =>
  intro m i hm h0 hi
  obtain ⟨m,rfl⟩:∃ q,m=q+1:=⟨m-1,by omega⟩
  refine .inl ⟨?_,fun q h1 h2=>by omega⟩
  show wS.r1 5000 l n j (row l j) ((row l j).length:Int) p0 p1 p2 p3 p4 p5 p6 p7 p8 p9 (wS.l1 5000 l n j (row l j) ((row l j).length:Int) p0 p1 p2 p3 p4 p5 p6 p7 p8 p9 m) i=_
  exact wA (decide_eq_false (by omega)) rfl
 | succ k ih =>
  intro m i hm h0 hi
  obtain ⟨m,rfl⟩:∃ q,m=q+1:=⟨m-1,by omega⟩
  have hr:∀ z,(bif (bif decide (at' (row l j) i<0) then true else decide (at' (row l j) i>15)) then some (.inr 1) else wS.l1 5000 l n j (row l j) ((row l j).length:Int) p0 p1 p2 p3 p4 p5 p6 p7 p8 p9 m (i+1))=z->wS.l1 5000 l n j (row l j) ((row l j).length:Int) p0 p1 p2 p3 p4 p5 p6 p7 p8 p9 (m+1) i=z:=by
   intro z hz
   show wS.r1 5000 l n j (row l j) ((row l j).length:Int) p0 p1 p2 p3 p4 p5 p6 p7 p8 p9 (wS.l1 5000 l n j (row l j) ((row l j).length:Int) p0 p1 p2 p3 p4 p5 p6 p7 p8 p9 m) i=z
   refine wO (decide_eq_true (by omega)) (zi ⟨h0,by omega⟩ ?_)
   dsimp only
   rw [wX (x:=i+1) (by omega) (by omega)]
   exact hz
  by_cases c1:at' (row l j) i<0
  ·exact .inr (hr _ (wO (by rw [decide_eq_true c1]; rfl) rfl))
  ·by_cases c2:at' (row l j) i>15
   ·exact .inr (hr _ (wO (by rw [decide_eq_false c1,decide_eq_true c2]; rfl) rfl))
   ·have hf:(bif decide (at' (row l j) i<0) then true else decide (at' (row l j) i>15))=false:=by rw [decide_eq_false c1,decide_eq_false c2]; rfl
    rcases ih m (i+1) (by omega) (by omega) (by omega) with ⟨h1,h2⟩ | h1
    ·refine .inl ⟨hr _ (wA hf h1),fun q q1 q2=>?_⟩
     by_cases e:q=i
     ·subst e; omega
     ·exact h2 q (by omega) q2
    ·exact .inr (hr _ (wA hf h1))
theorem u9 (l:List (List Int)) (p0 p1 p2 p3 p4 p5 p6 p7 p8 p9:Int) (hl:l.length<=10) (hB:0<=p3/\p3<=100) (k:Nat):∀ (m:Nat) (j:Int),k<m->0<=j->j+k=(l.length:Int) →
  (wS.l0 5000 l (l.length:Int) p0 p1 p2 p3 p4 p5 p6 p7 p8 p9 m j=some (.inl ())/\∀ c,j<=c->c<(l.length:Int)->((row l c).length:Int)=p3/\∀ q,0<=q->q<p3->0<=at' (row l c) q/\at' (row l c) q<=15)\/wS.l0 5000 l (l.length:Int) p0 p1 p2 p3 p4 p5 p6 p7 p8 p9 m j=some (.inr 1):=by
 induction k with
 | zero =>
  intro m j hm h0 hj
  obtain ⟨m,rfl⟩:∃ q,m=q+1:=⟨m-1,by omega⟩
  refine .inl ⟨?_,fun q h1 h2=>by omega⟩
  show wS.r0 5000 l (l.length:Int) p0 p1 p2 p3 p4 p5 p6 p7 p8 p9 (wS.l0 5000 l (l.length:Int) p0 p1 p2 p3 p4 p5 p6 p7 p8 p9 m) j=_
  exact wA (decide_eq_false (by omega)) rfl
 | succ k ih =>
  intro m j hm h0 hj
  obtain ⟨m,rfl⟩:∃ q,m=q+1:=⟨m-1,by omega⟩
  by_cases c1:((row l j).length:Int)=p3
  ·have hi:=HA l (l.length:Int) j p0 p1 p2 p3 p4 p5 p6 p7 p8 p9 ⟨h0,by omega⟩ c1 hB.2 p3.toNat 5000 0 (by omega) (by omega) (by omega)
   rcases hi with ⟨i1,i2⟩ | i1
   ·rcases ih m (j+1) (by omega) (by omega) (by omega) with ⟨h1,h2⟩ | h1
    ·refine .inl ⟨?_,fun c c0 cl=>?_⟩
     ·show wS.r0 5000 l (l.length:Int) p0 p1 p2 p3 p4 p5 p6 p7 p8 p9 (wS.l0 5000 l (l.length:Int) p0 p1 p2 p3 p4 p5 p6 p7 p8 p9 m) j=_
      refine wO (decide_eq_true (by omega)) (zi ⟨h0,by omega⟩ (wA (by simpa using c1) (wr i1 ?_)))
      dsimp only
      rw [wX (x:=j+1) (by omega) (by omega)]; exact h1
     ·by_cases e:c=j
      ·subst e; exact ⟨c1,i2⟩
      ·exact h2 c (by omega) cl
    ·refine .inr ?_
     show wS.r0 5000 l (l.length:Int) p0 p1 p2 p3 p4 p5 p6 p7 p8 p9 (wS.l0 5000 l (l.length:Int) p0 p1 p2 p3 p4 p5 p6 p7 p8 p9 m) j=_
     refine wO (decide_eq_true (by omega)) (zi ⟨h0,by omega⟩ (wA (by simpa using c1) (wr i1 ?_)))
     dsimp only
     rw [wX (x:=j+1) (by omega) (by omega)]; exact h1
   ·refine .inr ?_
    show wS.r0 5000 l (l.length:Int) p0 p1 p2 p3 p4 p5 p6 p7 p8 p9 (wS.l0 5000 l (l.length:Int) p0 p1 p2 p3 p4 p5 p6 p7 p8 p9 m) j=_
    exact wO (decide_eq_true (by omega)) (zi ⟨h0,by omega⟩ (wA (by simpa using c1) (wr i1 rfl)))
  ·refine .inr ?_
   show wS.r0 5000 l (l.length:Int) p0 p1 p2 p3 p4 p5 p6 p7 p8 p9 (wS.l0 5000 l (l.length:Int) p0 p1 p2 p3 p4 p5 p6 p7 p8 p9 m) j=_
   exact wO (decide_eq_true (by omega)) (zi ⟨h0,by omega⟩ (wO (by simpa using c1) rfl))
theorem hU (l:List (List Int)) (p0 p1 p2 p3 p4 p5 p6 p7 p8 p9:Int) (hl:l.length<=10) (hB:0<=p3/\p3<=100) (hf:∀ c,0<=c->c<(l.length:Int)->((row l c).length:Int)=p3/\∀ q,0<=q->q<p3->0<=at' (row l c) q/\at' (row l c) q<=15) (k:Nat):∀ (m:Nat) (j:Int),k<m->0<=j->j+k=(l.length:Int) →
  wS.l0 5000 l (l.length:Int) p0 p1 p2 p3 p4 p5 p6 p7 p8 p9 m j≠some (.inr 1):=by
 induction k with
 | zero =>
  intro m j hm h0 hj
  obtain ⟨m,rfl⟩:∃ q,m=q+1:=⟨m-1,by omega⟩
  have:wS.l0 5000 l (l.length:Int) p0 p1 p2 p3 p4 p5 p6 p7 p8 p9 (m+1) j=some (.inl ()):=by
   show wS.r0 5000 l (l.length:Int) p0 p1 p2 p3 p4 p5 p6 p7 p8 p9 (wS.l0 5000 l (l.length:Int) p0 p1 p2 p3 p4 p5 p6 p7 p8 p9 m) j=_
   exact wA (decide_eq_false (by omega)) rfl
  rw [this]; intro h; cases h
 | succ k ih =>
  intro m j hm h0 hj
  obtain ⟨m,rfl⟩:∃ q,m=q+1:=⟨m-1,by omega⟩
  obtain ⟨c1,c2⟩:=hf j h0 (by omega)
  have ok:∀ (k':Nat) (m':Nat) (i:Int),k'<m'->0<=i->i+k'=p3->wS.l1 5000 l (l.length:Int) j (row l j) ((row l j).length:Int) p0 p1 p2 p3 p4 p5 p6 p7 p8 p9 m' i=some (.inl ()):=by
   intro k'
   induction k' with
   | zero =>
    intro m' i hm' hi0 hi
    obtain ⟨m',rfl⟩:∃ q,m'=q+1:=⟨m'-1,by omega⟩
    show wS.r1 5000 l (l.length:Int) j (row l j) ((row l j).length:Int) p0 p1 p2 p3 p4 p5 p6 p7 p8 p9 (wS.l1 5000 l (l.length:Int) j (row l j) ((row l j).length:Int) p0 p1 p2 p3 p4 p5 p6 p7 p8 p9 m') i=_
    exact wA (decide_eq_false (by omega)) rfl
   | succ k' ih' =>
    intro m' i hm' hi0 hi
    obtain ⟨m',rfl⟩:∃ q,m'=q+1:=⟨m'-1,by omega⟩
    have q:=c2 i hi0 (by omega)
    show wS.r1 5000 l (l.length:Int) j (row l j) ((row l j).length:Int) p0 p1 p2 p3 p4 p5 p6 p7 p8 p9 (wS.l1 5000 l (l.length:Int) j (row l j) ((row l j).length:Int) p0 p1 p2 p3 p4 p5 p6 p7 p8 p9 m') i=_
    refine wO (decide_eq_true (by omega)) (zi ⟨hi0,by omega⟩ (wA ?_ ?_))
    ·show (bif decide (at' (row l j) i<0) then true else decide (at' (row l j) i>15))=false
     rw [decide_eq_false (by omega),decide_eq_false (by omega)]; rfl
    ·dsimp only
     rw [wX (x:=i+1) (by omega) (by omega)]; exact ih' m' (i+1) (by omega) (by omega) (by omega)
  have:wS.l0 5000 l (l.length:Int) p0 p1 p2 p3 p4 p5 p6 p7 p8 p9 (m+1) j=wS.l0 5000 l (l.length:Int) p0 p1 p2 p3 p4 p5 p6 p7 p8 p9 m (j+1):=by
   show wS.r0 5000 l (l.length:Int) p0 p1 p2 p3 p4 p5 p6 p7 p8 p9 (wS.l0 5000 l (l.length:Int) p0 p1 p2 p3 p4 p5 p6 p7 p8 p9 m) j=_
   refine wO (decide_eq_true (by omega)) (zi ⟨h0,by omega⟩ (wA (by simpa using c1) (wr (ok p3.toNat 5000 0 (by omega) (by omega) (by omega)) ?_)))
   dsimp only
   rw [wX (x:=j+1) (by omega) (by omega)]
  rw [this]; exact ih m (j+1) (by omega) (by omega) (by omega)
theorem Ua (p0 p1 p2 p3 p4 p5 p6 p7 p8 p9:Int) (l:List (List Int)) (hm:yd p0 p1 p2 p3 p4 p5 p6 p7 p8 p9):wS 5000 p0 p1 p2 p3 p4 p5 p6 p7 p8 p9 l=some 0/\Fit p0 p1 p2 p3 p4 p5 p6 p7 p8 p9 l\/wS 5000 p0 p1 p2 p3 p4 p5 p6 p7 p8 p9 l=some 1/\¬ Fit p0 p1 p2 p3 p4 p5 p6 p7 p8 p9 l:=by
 have hc:kJ 5000 p0 p1 p2 p3 p4 p5 p6 p7 p8 p9=some 0:=(KJ p0 p1 p2 p3 p4 p5 p6 p7 p8 p9).trans (by rw [if_pos (show okP p0 p1 p2 p3 p4 p5 p6 p7 p8 p9 from .inl hm)])
 have e1:p0=1:=hm.1.1
 have hr:∀ z,(bif ((l.length:Int) != p2) then some 1 else (wS.l0 5000 l (l.length:Int) p0 p1 p2 p3 p4 p5 p6 p7 p8 p9 5000 0).bind fun z=>match z with | .inl _=>some 0 | .inr r=>some r)=z->wS 5000 p0 p1 p2 p3 p4 p5 p6 p7 p8 p9 l=z:=by
  intro z hz
  exact wr hc (wA (by rw [e1]; rfl) hz)
 have h2:p2=1\/p2=2:=hm.1.2.2.2.1
 have h3:p3=4\/p3=8:=hm.1.2.2.2.2.1
 by_cases c1:(l.length:Int)=p2
 ·rcases u9 l p0 p1 p2 p3 p4 p5 p6 p7 p8 p9 (by omega) (by omega) l.length 5000 0 (by omega) (by omega) (by omega) with ⟨i1,i2⟩ | i1
  ·exact .inl ⟨hr _ (wA (by simpa using c1) (wr i1 rfl)),hm,c1,fun c c0 cl=>i2 c c0 (by omega)⟩
  ·refine .inr ⟨hr _ (wA (by simpa using c1) (wr i1 rfl)),fun hf=>?_⟩
   exact absurd i1 (hU l p0 p1 p2 p3 p4 p5 p6 p7 p8 p9 (by omega) (by omega) (fun c c0 cl=>hf.2.2 c c0 (by omega)) l.length 5000 0 (by omega) (by omega) (by omega))
 ·exact .inr ⟨hr _ (wO (by simpa using c1) rfl),fun hf=>c1 hf.2.1⟩
theorem Zw (h:Int->Int) (pool sum:Int) (C B:Nat) (hC:C=1\/C=2) (b:Nat) (hb:b<B) (a0:Int × (Int->Int))
  (hcb:∀ c:Nat,c<C->ky 5000 (at' (row (rw_ C B h) c) b) b ((rw_ C B (itr (b*C+c) (fun i (a:Int × (Int->Int))=>(imax a.1 (h i),a.2)) a0).2).getD c []) pool (itr (b*C+c) (fun i (a:Int × (Int->Int))=>(imax a.1 (h i),a.2)) a0).1 sum (rw_ C B h) (rw_ C B (itr (b*C+c) (fun i (a:Int × (Int->Int))=>(imax a.1 (h i),a.2)) a0).2) c=some (((fun i (a:Int × (Int->Int))=>(imax a.1 (h i),a.2)) ((b*C+c:Nat):Int) (itr (b*C+c) (fun i (a:Int × (Int->Int))=>(imax a.1 (h i),a.2)) a0)).1,rw_ C B ((fun i (a:Int × (Int->Int))=>(imax a.1 (h i),a.2)) ((b*C+c:Nat):Int) (itr (b*C+c) (fun i (a:Int × (Int->Int))=>(imax a.1 (h i),a.2)) a0)).2)) (k:Nat):∀ (m c:Nat),k<m->c+k=C->wP.l1 5000 (b:Int) (B:Int) (C:Int) pool sum (rw_ C B h) m c (itr (b*C+c) (fun i (a:Int × (Int->Int))=>(imax a.1 (h i),a.2)) a0).1 (rw_ C B (itr (b*C+c) (fun i (a:Int × (Int->Int))=>(imax a.1 (h i),a.2)) a0).2)=some ((itr (b*C+C) (fun i (a:Int × (Int->Int))=>(imax a.1 (h i),a.2)) a0).1,rw_ C B (itr (b*C+C) (fun i (a:Int × (Int->Int))=>(imax a.1 (h i),a.2)) a0).2):=by
 induction k with
 | zero =>
  intro m c hm hc
  obtain ⟨m,rfl⟩:∃ q,m=q+1:=⟨m-1,by omega⟩
  have hq:c=C:=by omega
  show wP.r1 5000 (b:Int) (B:Int) (C:Int) pool sum (rw_ C B h) (wP.l1 5000 (b:Int) (B:Int) (C:Int) pool sum (rw_ C B h) m) c (itr (b*C+c) (fun i (a:Int × (Int->Int))=>(imax a.1 (h i),a.2)) a0).1 (rw_ C B (itr (b*C+c) (fun i (a:Int × (Int->Int))=>(imax a.1 (h i),a.2)) a0).2)=_
  refine wA (decide_eq_false (by omega)) ?_
  rw [hq]
 | succ k ih =>
  intro m c hm hc
  obtain ⟨m,rfl⟩:∃ q,m=q+1:=⟨m-1,by omega⟩
  show wP.r1 5000 (b:Int) (B:Int) (C:Int) pool sum (rw_ C B h) (wP.l1 5000 (b:Int) (B:Int) (C:Int) pool sum (rw_ C B h) m) c (itr (b*C+c) (fun i (a:Int × (Int->Int))=>(imax a.1 (h i),a.2)) a0).1 (rw_ C B (itr (b*C+c) (fun i (a:Int × (Int->Int))=>(imax a.1 (h i),a.2)) a0).2)=_
  refine wO (decide_eq_true (by omega)) (zi ⟨cnn c,ltl (j3 C B h) (by omega)⟩ (zi ⟨cnn b,ltl (v4 (z:=h) (c:=c) (by omega)) hb⟩ (zi ⟨cnn c,ltl (j3 C B _) (by omega)⟩ (zi (ltn (j3 C B _) (by omega)) (zi ⟨cnn b,ltl (v7 (c:=c) (by omega)) hb⟩ (wr (hcb c (by omega)) ?_))))))
  dsimp only
  rw [kwc (n:=C) (by omega) (by omega)]
  exact ih m (c+1) (by omega) (by omega)
theorem Z1 (h:Int->Int) (pool sum:Int) (C B:Nat) (hC:C=1\/C=2) (hB:B<=8) (a0:Int × (Int->Int))
  (hcb:∀ b c:Nat,b<B->c<C->ky 5000 (at' (row (rw_ C B h) c) b) b ((rw_ C B (itr (b*C+c) (fun i (a:Int × (Int->Int))=>(imax a.1 (h i),a.2)) a0).2).getD c []) pool (itr (b*C+c) (fun i (a:Int × (Int->Int))=>(imax a.1 (h i),a.2)) a0).1 sum (rw_ C B h) (rw_ C B (itr (b*C+c) (fun i (a:Int × (Int->Int))=>(imax a.1 (h i),a.2)) a0).2) c=some (((fun i (a:Int × (Int->Int))=>(imax a.1 (h i),a.2)) ((b*C+c:Nat):Int) (itr (b*C+c) (fun i (a:Int × (Int->Int))=>(imax a.1 (h i),a.2)) a0)).1,rw_ C B ((fun i (a:Int × (Int->Int))=>(imax a.1 (h i),a.2)) ((b*C+c:Nat):Int) (itr (b*C+c) (fun i (a:Int × (Int->Int))=>(imax a.1 (h i),a.2)) a0)).2)) (k:Nat):∀ (m b:Nat),k<m->b+k=B->wP.l0 5000 (B:Int) pool sum (rw_ C B h) m b (itr (b*C) (fun i (a:Int × (Int->Int))=>(imax a.1 (h i),a.2)) a0).1 (rw_ C B (itr (b*C) (fun i (a:Int × (Int->Int))=>(imax a.1 (h i),a.2)) a0).2)=some ((itr (B*C) (fun i (a:Int × (Int->Int))=>(imax a.1 (h i),a.2)) a0).1,rw_ C B (itr (B*C) (fun i (a:Int × (Int->Int))=>(imax a.1 (h i),a.2)) a0).2):=by
 induction k with
 | zero =>
  intro m b hm hc
  obtain ⟨m,rfl⟩:∃ q,m=q+1:=⟨m-1,by omega⟩
  have hq:b=B:=by omega
  show wP.r0 5000 (B:Int) pool sum (rw_ C B h) (wP.l0 5000 (B:Int) pool sum (rw_ C B h) m) b (itr (b*C) (fun i (a:Int × (Int->Int))=>(imax a.1 (h i),a.2)) a0).1 (rw_ C B (itr (b*C) (fun i (a:Int × (Int->Int))=>(imax a.1 (h i),a.2)) a0).2)=_
  refine wA (decide_eq_false (by omega)) ?_
  rw [hq]
 | succ k ih =>
  intro m b hm hc
  obtain ⟨m,rfl⟩:∃ q,m=q+1:=⟨m-1,by omega⟩
  show wP.r0 5000 (B:Int) pool sum (rw_ C B h) (wP.l0 5000 (B:Int) pool sum (rw_ C B h) m) b (itr (b*C) (fun i (a:Int × (Int->Int))=>(imax a.1 (h i),a.2)) a0).1 (rw_ C B (itr (b*C) (fun i (a:Int × (Int->Int))=>(imax a.1 (h i),a.2)) a0).2)=_
  have hin:=Zw h pool sum C B hC b (by omega) a0 (fun c hc=>hcb b c (by omega) hc) C 5000 0 (by omega) (by omega)
  rw [show ((C:Nat):Int)=(((rw_ C B h).length:Nat):Int) by rw [j3]] at hin
  refine wO (decide_eq_true (by omega)) (wr hin ?_)
  dsimp only
  rw [kwc (n:=B) (by omega) (by omega)]
  have:=ih m (b+1) (by omega) (by omega)
  rw [show (b+1)*C=b*C+C by rw [Nat.add_mul,Nat.one_mul]] at this
  exact this
theorem WF (h:Int->Int) (pool s sum:Int) (C B:Nat) (hC:C=1\/C=2) (b:Nat) (hb:b<B) (a0:Int × (Int->Int))
  (hcb:∀ c:Nat,c<C->qx 5000 (at' (row (rw_ C B h) c) b) b ((rw_ C B (itr (b*C+c) (fun i (a:Int × (Int->Int))=>(a.1+wt (h i-s),a.2)) a0).2).getD c []) (itr (b*C+c) (fun i (a:Int × (Int->Int))=>(a.1+wt (h i-s),a.2)) a0).1 pool s sum (rw_ C B h) (rw_ C B (itr (b*C+c) (fun i (a:Int × (Int->Int))=>(a.1+wt (h i-s),a.2)) a0).2) c=some (((fun i (a:Int × (Int->Int))=>(a.1+wt (h i-s),a.2)) ((b*C+c:Nat):Int) (itr (b*C+c) (fun i (a:Int × (Int->Int))=>(a.1+wt (h i-s),a.2)) a0)).1,rw_ C B ((fun i (a:Int × (Int->Int))=>(a.1+wt (h i-s),a.2)) ((b*C+c:Nat):Int) (itr (b*C+c) (fun i (a:Int × (Int->Int))=>(a.1+wt (h i-s),a.2)) a0)).2)) (k:Nat):∀ (m c:Nat),k<m->c+k=C->wM.l1 5000 (b:Int) (B:Int) (C:Int) pool s sum (rw_ C B h) m c (itr (b*C+c) (fun i (a:Int × (Int->Int))=>(a.1+wt (h i-s),a.2)) a0).1 (rw_ C B (itr (b*C+c) (fun i (a:Int × (Int->Int))=>(a.1+wt (h i-s),a.2)) a0).2)=some ((itr (b*C+C) (fun i (a:Int × (Int->Int))=>(a.1+wt (h i-s),a.2)) a0).1,rw_ C B (itr (b*C+C) (fun i (a:Int × (Int->Int))=>(a.1+wt (h i-s),a.2)) a0).2):=by
 induction k with
 | zero =>
  intro m c hm hc
  obtain ⟨m,rfl⟩:∃ q,m=q+1:=⟨m-1,by omega⟩
  have hq:c=C:=by omega
  show wM.r1 5000 (b:Int) (B:Int) (C:Int) pool s sum (rw_ C B h) (wM.l1 5000 (b:Int) (B:Int) (C:Int) pool s sum (rw_ C B h) m) c (itr (b*C+c) (fun i (a:Int × (Int->Int))=>(a.1+wt (h i-s),a.2)) a0).1 (rw_ C B (itr (b*C+c) (fun i (a:Int × (Int->Int))=>(a.1+wt (h i-s),a.2)) a0).2)=_
  refine wA (decide_eq_false (by omega)) ?_
  rw [hq]
 | succ k ih =>
  intro m c hm hc
  obtain ⟨m,rfl⟩:∃ q,m=q+1:=⟨m-1,by omega⟩
  show wM.r1 5000 (b:Int) (B:Int) (C:Int) pool s sum (rw_ C B h) (wM.l1 5000 (b:Int) (B:Int) (C:Int) pool s sum (rw_ C B h) m) c (itr (b*C+c) (fun i (a:Int × (Int->Int))=>(a.1+wt (h i-s),a.2)) a0).1 (rw_ C B (itr (b*C+c) (fun i (a:Int × (Int->Int))=>(a.1+wt (h i-s),a.2)) a0).2)=_
  refine wO (decide_eq_true (by omega)) (zi ⟨cnn c,ltl (j3 C B h) (by omega)⟩ (zi ⟨cnn b,ltl (v4 (z:=h) (c:=c) (by omega)) hb⟩ (zi ⟨cnn c,ltl (j3 C B _) (by omega)⟩ (zi (ltn (j3 C B _) (by omega)) (zi ⟨cnn b,ltl (v7 (c:=c) (by omega)) hb⟩ (wr (hcb c (by omega)) ?_))))))
  dsimp only
  rw [kwc (n:=C) (by omega) (by omega)]
  exact ih m (c+1) (by omega) (by omega)
theorem Zk (h:Int->Int) (pool s sum:Int) (C B:Nat) (hC:C=1\/C=2) (hB:B<=8) (a0:Int × (Int->Int))
  (hcb:∀ b c:Nat,b<B->c<C->qx 5000 (at' (row (rw_ C B h) c) b) b ((rw_ C B (itr (b*C+c) (fun i (a:Int × (Int->Int))=>(a.1+wt (h i-s),a.2)) a0).2).getD c []) (itr (b*C+c) (fun i (a:Int × (Int->Int))=>(a.1+wt (h i-s),a.2)) a0).1 pool s sum (rw_ C B h) (rw_ C B (itr (b*C+c) (fun i (a:Int × (Int->Int))=>(a.1+wt (h i-s),a.2)) a0).2) c=some (((fun i (a:Int × (Int->Int))=>(a.1+wt (h i-s),a.2)) ((b*C+c:Nat):Int) (itr (b*C+c) (fun i (a:Int × (Int->Int))=>(a.1+wt (h i-s),a.2)) a0)).1,rw_ C B ((fun i (a:Int × (Int->Int))=>(a.1+wt (h i-s),a.2)) ((b*C+c:Nat):Int) (itr (b*C+c) (fun i (a:Int × (Int->Int))=>(a.1+wt (h i-s),a.2)) a0)).2)) (k:Nat):∀ (m b:Nat),k<m->b+k=B->wM.l0 5000 (B:Int) pool s sum (rw_ C B h) m b (itr (b*C) (fun i (a:Int × (Int->Int))=>(a.1+wt (h i-s),a.2)) a0).1 (rw_ C B (itr (b*C) (fun i (a:Int × (Int->Int))=>(a.1+wt (h i-s),a.2)) a0).2)=some ((itr (B*C) (fun i (a:Int × (Int->Int))=>(a.1+wt (h i-s),a.2)) a0).1,rw_ C B (itr (B*C) (fun i (a:Int × (Int->Int))=>(a.1+wt (h i-s),a.2)) a0).2):=by
 induction k with
 | zero =>
  intro m b hm hc
  obtain ⟨m,rfl⟩:∃ q,m=q+1:=⟨m-1,by omega⟩
  have hq:b=B:=by omega
  show wM.r0 5000 (B:Int) pool s sum (rw_ C B h) (wM.l0 5000 (B:Int) pool s sum (rw_ C B h) m) b (itr (b*C) (fun i (a:Int × (Int->Int))=>(a.1+wt (h i-s),a.2)) a0).1 (rw_ C B (itr (b*C) (fun i (a:Int × (Int->Int))=>(a.1+wt (h i-s),a.2)) a0).2)=_
  refine wA (decide_eq_false (by omega)) ?_
  rw [hq]
 | succ k ih =>
  intro m b hm hc
  obtain ⟨m,rfl⟩:∃ q,m=q+1:=⟨m-1,by omega⟩
  show wM.r0 5000 (B:Int) pool s sum (rw_ C B h) (wM.l0 5000 (B:Int) pool s sum (rw_ C B h) m) b (itr (b*C) (fun i (a:Int × (Int->Int))=>(a.1+wt (h i-s),a.2)) a0).1 (rw_ C B (itr (b*C) (fun i (a:Int × (Int->Int))=>(a.1+wt (h i-s),a.2)) a0).2)=_
  have hin:=WF h pool s sum C B hC b (by omega) a0 (fun c hc=>hcb b c (by omega) hc) C 5000 0 (by omega) (by omega)
  rw [show ((C:Nat):Int)=(((rw_ C B h).length:Nat):Int) by rw [j3]] at hin
  refine wO (decide_eq_true (by omega)) (wr hin ?_)
  dsimp only
  rw [kwc (n:=B) (by omega) (by omega)]
  have:=ih m (b+1) (by omega) (by omega)
  rw [show (b+1)*C=b*C+C by rw [Nat.add_mul,Nat.one_mul]] at this
  exact this
theorem WU (h:Int->Int) (pool s sum:Int) (C B:Nat) (hC:C=1\/C=2) (b:Nat) (hb:b<B) (a0:Int × (Int->Int))
  (hcb:∀ c:Nat,c<C->jp 5000 (at' (row (rw_ C B h) c) b) b ((rw_ C B (itr (b*C+c) (fun i (a:Int × (Int->Int))=>(a.1,if h i>=s+2 then upd a.2 i (imin (h i-s) 16) else a.2)) a0).2).getD c []) pool s sum (rw_ C B h) (rw_ C B (itr (b*C+c) (fun i (a:Int × (Int->Int))=>(a.1,if h i>=s+2 then upd a.2 i (imin (h i-s) 16) else a.2)) a0).2) c=some (rw_ C B ((fun i (a:Int × (Int->Int))=>(a.1,if h i>=s+2 then upd a.2 i (imin (h i-s) 16) else a.2)) ((b*C+c:Nat):Int) (itr (b*C+c) (fun i (a:Int × (Int->Int))=>(a.1,if h i>=s+2 then upd a.2 i (imin (h i-s) 16) else a.2)) a0)).2)) (k:Nat):∀ (m c:Nat),k<m->c+k=C->wI.l1 5000 (b:Int) (B:Int) (C:Int) pool s sum (rw_ C B h) m c (rw_ C B (itr (b*C+c) (fun i (a:Int × (Int->Int))=>(a.1,if h i>=s+2 then upd a.2 i (imin (h i-s) 16) else a.2)) a0).2)=some (rw_ C B (itr (b*C+C) (fun i (a:Int × (Int->Int))=>(a.1,if h i>=s+2 then upd a.2 i (imin (h i-s) 16) else a.2)) a0).2):=by
 induction k with
 | zero =>
  intro m c hm hc
  obtain ⟨m,rfl⟩:∃ q,m=q+1:=⟨m-1,by omega⟩
  have hq:c=C:=by omega
  show wI.r1 5000 (b:Int) (B:Int) (C:Int) pool s sum (rw_ C B h) (wI.l1 5000 (b:Int) (B:Int) (C:Int) pool s sum (rw_ C B h) m) c (rw_ C B (itr (b*C+c) (fun i (a:Int × (Int->Int))=>(a.1,if h i>=s+2 then upd a.2 i (imin (h i-s) 16) else a.2)) a0).2)=_
  refine wA (decide_eq_false (by omega)) ?_
  rw [hq]
 | succ k ih =>
  intro m c hm hc
  obtain ⟨m,rfl⟩:∃ q,m=q+1:=⟨m-1,by omega⟩
  show wI.r1 5000 (b:Int) (B:Int) (C:Int) pool s sum (rw_ C B h) (wI.l1 5000 (b:Int) (B:Int) (C:Int) pool s sum (rw_ C B h) m) c (rw_ C B (itr (b*C+c) (fun i (a:Int × (Int->Int))=>(a.1,if h i>=s+2 then upd a.2 i (imin (h i-s) 16) else a.2)) a0).2)=_
  refine wO (decide_eq_true (by omega)) (zi ⟨cnn c,ltl (j3 C B h) (by omega)⟩ (zi ⟨cnn b,ltl (v4 (z:=h) (c:=c) (by omega)) hb⟩ (zi ⟨cnn c,ltl (j3 C B _) (by omega)⟩ (zi (ltn (j3 C B _) (by omega)) (zi ⟨cnn b,ltl (v7 (c:=c) (by omega)) hb⟩ (wr (hcb c (by omega)) ?_))))))
  dsimp only
  rw [kwc (n:=C) (by omega) (by omega)]
  exact ih m (c+1) (by omega) (by omega)
theorem Zl (h:Int->Int) (pool s sum:Int) (C B:Nat) (hC:C=1\/C=2) (hB:B<=8) (a0:Int × (Int->Int))
  (hcb:∀ b c:Nat,b<B->c<C->jp 5000 (at' (row (rw_ C B h) c) b) b ((rw_ C B (itr (b*C+c) (fun i (a:Int × (Int->Int))=>(a.1,if h i>=s+2 then upd a.2 i (imin (h i-s) 16) else a.2)) a0).2).getD c []) pool s sum (rw_ C B h) (rw_ C B (itr (b*C+c) (fun i (a:Int × (Int->Int))=>(a.1,if h i>=s+2 then upd a.2 i (imin (h i-s) 16) else a.2)) a0).2) c=some (rw_ C B ((fun i (a:Int × (Int->Int))=>(a.1,if h i>=s+2 then upd a.2 i (imin (h i-s) 16) else a.2)) ((b*C+c:Nat):Int) (itr (b*C+c) (fun i (a:Int × (Int->Int))=>(a.1,if h i>=s+2 then upd a.2 i (imin (h i-s) 16) else a.2)) a0)).2)) (k:Nat):∀ (m b:Nat),k<m->b+k=B->wI.l0 5000 (B:Int) pool s sum (rw_ C B h) m b (rw_ C B (itr (b*C) (fun i (a:Int × (Int->Int))=>(a.1,if h i>=s+2 then upd a.2 i (imin (h i-s) 16) else a.2)) a0).2)=some (rw_ C B (itr (B*C) (fun i (a:Int × (Int->Int))=>(a.1,if h i>=s+2 then upd a.2 i (imin (h i-s) 16) else a.2)) a0).2):=by
 induction k with
 | zero =>
  intro m b hm hc
  obtain ⟨m,rfl⟩:∃ q,m=q+1:=⟨m-1,by omega⟩
  have hq:b=B:=by omega
  show wI.r0 5000 (B:Int) pool s sum (rw_ C B h) (wI.l0 5000 (B:Int) pool s sum (rw_ C B h) m) b (rw_ C B (itr (b*C) (fun i (a:Int × (Int->Int))=>(a.1,if h i>=s+2 then upd a.2 i (imin (h i-s) 16) else a.2)) a0).2)=_
  refine wA (decide_eq_false (by omega)) ?_
  rw [hq]
 | succ k ih =>
  intro m b hm hc
  obtain ⟨m,rfl⟩:∃ q,m=q+1:=⟨m-1,by omega⟩
  show wI.r0 5000 (B:Int) pool s sum (rw_ C B h) (wI.l0 5000 (B:Int) pool s sum (rw_ C B h) m) b (rw_ C B (itr (b*C) (fun i (a:Int × (Int->Int))=>(a.1,if h i>=s+2 then upd a.2 i (imin (h i-s) 16) else a.2)) a0).2)=_
  have hin:=WU h pool s sum C B hC b (by omega) a0 (fun c hc=>hcb b c (by omega) hc) C 5000 0 (by omega) (by omega)
  rw [show ((C:Nat):Int)=(((rw_ C B h).length:Nat):Int) by rw [j3]] at hin
  refine wO (decide_eq_true (by omega)) (wr hin ?_)
  dsimp only
  rw [kwc (n:=B) (by omega) (by omega)]
  have:=ih m (b+1) (by omega) (by omega)
  rw [show (b+1)*C=b*C+C by rw [Nat.add_mul,Nat.one_mul]] at this
  exact this
end Go.Fo
