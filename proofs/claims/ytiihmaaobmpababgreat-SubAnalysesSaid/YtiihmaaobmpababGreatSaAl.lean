/- Rows of rows that tell a function; sums over all bands. -/
import Derived.Test.YtiihmaaobmpababGreatSaFm
namespace Go.Fo
abbrev row (l:List (List Int)) (j:Int):List Int:=Kd.nth (.slice (.int .i64)) l (Int.toNat j)
abbrev at' (v:List Int) (i:Int):Int:=Kd.nth (.int .i64) v (Int.toNat i)
def tabv (n:Nat) (f:Int->Int):List Int:=(List.range n).map fun i:Nat=>f i
theorem gg (n:Nat) (f:Int->Int):tabv n f++[f n]=tabv (n+1) f:=by unfold tabv; rw [List.range_succ,List.map_append]; rfl
theorem kT (n:Nat) (f:Int->Int):(tabv n f).length=n:=by simp [tabv]
theorem yd (n:Nat) (f:Int->Int) (i:Int) (h0:0<=i) (h:i<n):at' (tabv n f) i=f i:=by
 unfold at' Kd.nth tabv
 rw [List.getD_eq_getElem?_getD,List.getElem?_eq_getElem (by simp; omega)]
 show (List.map (fun i:Nat=>f i) (List.range n))[i.toNat]'_=f i
 rw [List.getElem_map,List.getElem_range,Int.toNat_of_nonneg h0]
theorem Wj (n:Nat) (f:Int->Int) (i:Nat) (v:Int):(tabv n f).set i v=tabv n (fun j=>if j=(i:Int) then v else f j):=by
 apply List.ext_getElem
 ·simp [tabv]
 ·intro k h1 h2
  simp only [tabv,List.getElem_set,List.getElem_map,List.getElem_range]
  by_cases e:i=k
  ·rw [if_pos e,if_pos (by omega)]
  ·rw [if_neg e,if_neg (by omega)]
theorem QD (n:Nat) (f g:Int->Int) (h:∀ j:Int,0<=j->j<n->f j=g j):tabv n f=tabv n g:=by
 unfold tabv
 apply List.map_congr_left
 intro k hk
 have:=List.mem_range.1 hk
 exact h k (by omega) (by omega)
def upd (z:Int->Int) (i v:Int):Int->Int:=fun j=>if j=i then v else z j

def rw_ (C B:Nat) (z:Int->Int):List (List Int):=(List.range C).map fun c:Nat=>tabv B fun b=>z (b*C+c)
theorem jn (C B:Nat) (z:Int->Int):(rw_ C B z).length=C:=by simp [rw_]
theorem QN {C B:Nat} {z:Int->Int} {c:Nat} (hc:c<C):(rw_ C B z).getD c []=tabv B fun b=>z (b*C+c):=by
 unfold rw_
 rw [List.getD_eq_getElem?_getD,List.getElem?_eq_getElem (by simpa using hc)]
 simp
theorem Y5 {C B:Nat} {z:Int->Int} {c:Nat} (hc:c<C):row (rw_ C B z) c=tabv B fun b=>z (b*C+c):=QN hc
theorem yI {C B:Nat} {z:Int->Int} {c:Nat} (hc:c<C):(row (rw_ C B z) c).length=B:=by rw [Y5 hc,kT]
theorem vv {C B:Nat} {z:Int->Int} {c:Nat} (hc:c<C):((rw_ C B z).getD c []).length=B:=by rw [QN hc,kT]
theorem vd {C B:Nat} {z:Int->Int} {c b:Nat} (hc:c<C) (hb:b<B):at' (row (rw_ C B z) c) b=z ((b*C+c:Nat):Int):=by
 rw [Y5 hc,yd _ _ _ (by omega) (by omega)]; push_cast; rfl
theorem Y0 {C B:Nat} {z:Int->Int} {c b:Nat} (hC:C=1\/C=2) (hc:c<C) (v:Int):(rw_ C B z).set c ((tabv B fun b=>z (b*C+c)).set b v)=rw_ C B (upd z ((b*C+c:Nat):Int) v):=by
 apply List.ext_getElem
 ·simp [rw_]
 ·intro k h1 h2
  have hk:k<C:=by simpa [rw_] using h2
  rw [List.getElem_set]
  simp only [rw_,List.getElem_map,List.getElem_range]
  rw [Wj]
  by_cases e:c=k
  ·rw [if_pos e]; subst e
   apply QD; intro j _ _
   unfold upd
   by_cases e2:j=(b:Int)
   ·rw [if_pos e2,if_pos (by rw [e2]; push_cast; rfl)]
   ·rw [if_neg e2,if_neg (by rcases hC with rfl | rfl<;>(push_cast; omega))]
  ·rw [if_neg e]
   apply QD; intro j _ _
   unfold upd
   rw [if_neg (by rcases hC with rfl | rfl<;>(push_cast; omega))]
theorem WX {C B:Nat} {z:Int->Int} {c:Nat} (hc:c<C):(rw_ C B z).set c ((rw_ C B z).getD c [])=rw_ C B z:=by
 apply List.ext_getElem
 ·simp
 ·intro k h1 h2
  rw [List.getElem_set]
  split
  ·rename_i e; subst e
   rw [List.getD_eq_getElem?_getD,List.getElem?_eq_getElem h2]; rfl
  ·rfl
theorem ltl {α:Type} {L:List α} {n c:Nat} (hl:L.length=n) (h:c<n):((c:Nat):Int)<((L.length:Nat):Int):=by rw [hl]; omega
theorem ltn {α:Type} {L:List α} {n c:Nat} (hl:L.length=n) (h:c<n):c<L.length:=by rw [hl]; exact h
theorem cnn (c:Nat):(0:Int)<=((c:Nat):Int):=Int.natCast_nonneg c
theorem kwc {c n:Nat} (h:c<n) (hn:n<=1000000):wb .i64 (((c:Nat):Int)+1)=((c+1:Nat):Int):=by rw [qA (by omega) (by omega)]; push_cast; rfl
def itr {α:Type}:Nat->(Int->α->α)->α->α
  | 0,_,a=>a
  | n+1,F,a=>F n (itr n F a)
def wt (d:Int):Int:=bif d==1 then 2 else bif (bif decide (d>1) then decide (d<16) else false) then 1 else 0
theorem gG (d:Int):0<=wt d/\wt d<=2:=by unfold wt; cases (d==1)<;>cases decide (d>1)<;>cases decide (d<16)<;>decide
theorem Xa (h:Int->Int) (s:Int):∀ n:Nat,0<=itr n (fun i a=>a+wt (h i-s)) 0/\itr n (fun i a=>a+wt (h i-s)) 0<=2*n
 | 0=>⟨Int.le_refl _,Int.le_refl _⟩
 | n+1=>by
  have:=Xa h s n
  have:=gG (h n-s)
  show 0<=itr n (fun i a=>a+wt (h i-s)) 0+wt (h n-s)/\_
  constructor
  ·omega
  ·show itr n (fun i a=>a+wt (h i-s)) 0+wt (h n-s)<=_
   push_cast; omega
theorem uO (h:Int->Int) (a0:Int) (ha:-1000<=a0/\a0<=15):∀ n:Nat,(∀ i:Int,0<=i->i<n->-5<=h i/\h i<=15)->-1000<=itr n (fun i a=>imax a (h i)) a0/\itr n (fun i a=>imax a (h i)) a0<=15
 | 0,_=>ha
 | n+1,hr=>by
  have h1:=uO h a0 ha n (fun i i0 i1=>hr i i0 (by omega))
  have h2:=hr n (by omega) (by omega)
  show -1000<=imax (itr n (fun i a=>imax a (h i)) a0) (h n)/\imax (itr n (fun i a=>imax a (h i)) a0) (h n)<=15
  have g:∀ x y:Int,-1000<=x/\x<=15->-5<=y/\y<=15->-1000<=imax x y/\imax x y<=15:=by intro x y hx hy; unfold imax; split<;>omega
  exact g _ _ h1 h2
def GG (d:Int):Int:=if d<=1 then 0 else if d<=16 then d else 16
theorem gA (d:Int):GG (d+1)=GG d+wt d:=by
 unfold GG wt
 by_cases e1:d=1
 ·subst e1; rfl
 ·rw [show (d==1)=false by simpa using e1]
  by_cases e2:d>1
  ·by_cases e3:d<16
   ·rw [decide_eq_true e2,decide_eq_true e3,if_neg (by omega),if_pos (by omega),if_neg (by omega),if_pos (by omega)]; rfl
   ·rw [decide_eq_true e2,decide_eq_false e3,if_neg (by omega),if_neg (by omega),if_neg (by omega)]
    show (16:Int)=(if d<=16 then d else 16)+0
    split<;>omega
  ·rw [decide_eq_false e2,if_pos (by omega),if_pos (by omega)]; rfl
def cst (h:Int->Int) (N:Nat) (s:Int):Int:=itr N (fun i a=>a+wt (h i-s)) 0
def tot (h:Int->Int) (N:Nat) (s:Int):Int:=itr N (fun i a=>a+GG (h i-s)) 0
theorem ZU (h:Int->Int) (N:Nat) (s:Int):0<=cst h N s/\cst h N s<=2*N:=Xa h s N
theorem Zb (h:Int->Int) (s:Int):∀ N:Nat,tot h N (s-1)=tot h N s+cst h N s
 | 0=>rfl
 | N+1=>by
  have ih:=Zb h s N
  have g:=gA (h N-s)
  rw [show h N-s+1=h N-(s-1) by omega] at g
  show tot h N (s-1)+GG (h N-(s-1))=(tot h N s+GG (h N-s))+(cst h N s+wt (h N-s))
  omega
theorem KC (h:Int->Int):∀ (N:Nat) (s:Int),0<=tot h N s/\tot h N s<=16*N
 | 0,_=>⟨Int.le_refl _,Int.le_refl _⟩
 | N+1,s=>by
  have ih:=KC h N s
  have g:∀ d,0<=GG d/\GG d<=16:=by intro d; unfold GG; split<;>(try split)<;>omega
  have:=g (h N-s)
  show 0<=tot h N s+GG (h N-s)/\tot h N s+GG (h N-s)<=_
  constructor
  ·omega
  ·push_cast; omega
theorem WW (h:Int->Int):∀ (N:Nat) (s:Int),(∀ i:Int,0<=i->i<N->-5<=h i/\h i<=15)->s<=-21->tot h N s=16*N
 | 0,_,_,_=>rfl
 | N+1,s,hr,hs=>by
  have ih:=WW h N s (fun i i0 i1=>hr i i0 (by omega)) hs
  have:=hr N (by omega) (by omega)
  show tot h N s+GG (h N-s)=_
  have g:GG (h N-s)=16:=by unfold GG; split<;>(try split)<;>omega
  rw [ih,g]; push_cast; omega
theorem uW (h:Int->Int) (a0:Int):∀ (N:Nat) (i:Int),0<=i->i<N->h i<=itr N (fun i a=>imax a (h i)) a0
 | 0,i,h0,h1=>by omega
 | N+1,i,h0,h1=>by
  have g:∀ x y:Int,x<=imax x y/\y<=imax x y:=by intro x y; unfold imax; split<;>omega
  have:=g (itr N (fun i a=>imax a (h i)) a0) (h N)
  show h i<=imax (itr N (fun i a=>imax a (h i)) a0) (h N)
  by_cases e:i=N
  ·rw [e]; exact this.2
  ·have:=uW h a0 N i h0 (by omega); omega
theorem Zn (h:Int->Int) (s:Int):∀ (N:Nat),(∀ i:Int,0<=i->i<N->h i<=s)->tot h N s=0
 | 0,_=>rfl
 | N+1,hr=>by
  have ih:=Zn h s N (fun i i0 i1=>hr i i0 (by omega))
  have:=hr N (by omega) (by omega)
  show tot h N s+GG (h N-s)=0
  have g:GG (h N-s)=0:=by unfold GG; split<;>(try split)<;>omega
  rw [ih,g]; rfl
def xq (r B b:Int):Int:=(jl 5000 0 r 0 B 0 0 0 0 0 0 b).getD 0
theorem VC (p0 p1 p2 p3 p4 p5 p6 p7 p8 p9 b:Int) (hr:0<=p1/\p1<=3) (hB:p3=4\/p3=8) (hb:0<=b/\b<p3):jl 5000 p0 p1 p2 p3 p4 p5 p6 p7 p8 p9 b=some (xq p1 p3 b)/\-4<=xq p1 p3 b/\xq p1 p3 b<=2:=by
 have h1:p1=0\/p1=1\/p1=2\/p1=3:=by omega
 rcases hB with rfl | rfl
 ·have h2:b=0\/b=1\/b=2\/b=3:=by omega
  rcases h1 with rfl | rfl | rfl | rfl<;>rcases h2 with rfl | rfl | rfl | rfl<;>exact ⟨rfl,by decide,by decide⟩
 ·have h2:b=0\/b=1\/b=2\/b=3\/b=4\/b=5\/b=6\/b=7:=by omega
  rcases h1 with rfl | rfl | rfl | rfl<;>rcases h2 with rfl | rfl | rfl | rfl | rfl | rfl | rfl | rfl<;>exact ⟨rfl,by decide,by decide⟩
def WI (r B me s b:Int):Int:=bif me==1 then s else bif s==0 then -5 else bif decide (s-xq r B b>0) then Int.tdiv (s-xq r B b) 2 else s-xq r B b
theorem Gb (p0 p1 p2 p3 p4 p5 p6 p7 p8 p9 s b:Int) (hr:0<=p1/\p1<=3) (hB:p3=4\/p3=8) (hb:0<=b/\b<p3) (hs:0<=s/\s<=15):xD 5000 p0 p1 p2 p3 p4 p5 p6 p7 p8 p9 s b=some (WI p1 p3 p5 s b):=by
 obtain ⟨h1,h2,h3⟩:=VC p0 p1 p2 p3 p4 p5 p6 p7 p8 p9 b hr hB hb
 unfold WI
 rcases Bool.eq_false_or_eq_true (p5==1) with e | e
 ·rw [e]; exact wQ e rfl
 ·rw [e]
  refine wM e ?_
  rcases Bool.eq_false_or_eq_true (s==0) with e2 | e2
  ·rw [e2]; exact wQ rfl rfl
  ·rw [e2]
   refine wM rfl (wJ h1 ?_)
   dsimp only
   rw [qA (x:=s-xq p1 p3 b) (by omega) (by omega)]
   rcases Bool.eq_false_or_eq_true (decide (s-xq p1 p3 b>0)) with e3 | e3
   ·have h0:s-xq p1 p3 b>0:=of_decide_eq_true e3
    rw [e3]
    refine wJ (wQ rfl rfl) ?_
    rw [qA (by rw [Int.tdiv_eq_ediv_of_nonneg (by omega)]; omega) (by rw [Int.tdiv_eq_ediv_of_nonneg (by omega)]; omega)]; rfl
   ·rw [e3]; exact wJ (wM rfl rfl) rfl
theorem YA (r B me s b:Int) (hr:0<=r/\r<=3) (hB:B=4\/B=8) (hb:0<=b/\b<B) (hs:0<=s/\s<=15):-5<=WI r B me s b/\WI r B me s b<=15:=by
 obtain ⟨_,h2,h3⟩:=VC 0 r 0 B 0 0 0 0 0 0 b hr hB hb
 unfold WI
 cases (me==1)
 ·cases e:(s==0)
  ·have e':s≠0:=by simpa using e
   cases e3:decide (s-xq r B b>0)
   ·have:¬ s-xq r B b>0:=of_decide_eq_false e3
    show -5<=s-xq r B b/\s-xq r B b<=15; omega
   ·have:s-xq r B b>0:=of_decide_eq_true e3
    show -5<=Int.tdiv (s-xq r B b) 2/\Int.tdiv (s-xq r B b) 2<=15
    rw [Int.tdiv_eq_ediv_of_nonneg (by omega)]; omega
  ·show -5<=(-5:Int)/\(-5:Int)<=15; decide
 ·show -5<=s/\s<=15; omega

def Fit (p0 p1 p2 p3 p4 p5 p6 p7 p8 p9:Int) (l:List (List Int)):Prop:=yf p0 p1 p2 p3 p4 p5 p6 p7 p8 p9/\(l.length:Int)=p2/\∀ c,0<=c->c<p2->((row l c).length:Int)=p3/\∀ q,0<=q->q<p3->0<=at' (row l c) q/\at' (row l c) q<=15
theorem GC (l:List (List Int)) (n j p0 p1 p2 p3 p4 p5 p6 p7 p8 p9:Int) (hj:0<=j/\j<(l.length:Int)) (hv:((row l j).length:Int)=p3) (hB:p3<=100) (k:Nat):∀ (m:Nat) (i:Int),k<m->0<=i->i+k=p3 →
  (wG.l1 5000 l n j (row l j) ((row l j).length:Int) p0 p1 p2 p3 p4 p5 p6 p7 p8 p9 m i=some (.inl ())/\∀ q,i<=q->q<p3->0<=at' (row l j) q/\at' (row l j) q<=15)\/wG.l1 5000 l n j (row l j) ((row l j).length:Int) p0 p1 p2 p3 p4 p5 p6 p7 p8 p9 m i=some (.inr 1):=by
 induction k with
 | zero =>
  intro m i hm h0 hi
  obtain ⟨m,rfl⟩:∃ q,m=q+1:=⟨m-1,by omega⟩
  refine .inl ⟨?_,fun q h1 h2=>by omega⟩
  show wG.r1 5000 l n j (row l j) ((row l j).length:Int) p0 p1 p2 p3 p4 p5 p6 p7 p8 p9 (wG.l1 5000 l n j (row l j) ((row l j).length:Int) p0 p1 p2 p3 p4 p5 p6 p7 p8 p9 m) i=_
  exact wM (decide_eq_false (by omega)) rfl
 | succ k ih =>
  intro m i hm h0 hi
  obtain ⟨m,rfl⟩:∃ q,m=q+1:=⟨m-1,by omega⟩
  have hr:∀ z,(bif (bif decide (at' (row l j) i<0) then true else decide (at' (row l j) i>15)) then some (.inr 1) else wG.l1 5000 l n j (row l j) ((row l j).length:Int) p0 p1 p2 p3 p4 p5 p6 p7 p8 p9 m (i+1))=z->wG.l1 5000 l n j (row l j) ((row l j).length:Int) p0 p1 p2 p3 p4 p5 p6 p7 p8 p9 (m+1) i=z:=by
   intro z hz
   show wG.r1 5000 l n j (row l j) ((row l j).length:Int) p0 p1 p2 p3 p4 p5 p6 p7 p8 p9 (wG.l1 5000 l n j (row l j) ((row l j).length:Int) p0 p1 p2 p3 p4 p5 p6 p7 p8 p9 m) i=z
   refine wQ (decide_eq_true (by omega)) (qi ⟨h0,by omega⟩ ?_)
   dsimp only
   rw [qA (x:=i+1) (by omega) (by omega)]
   exact hz
  by_cases c1:at' (row l j) i<0
  ·exact .inr (hr _ (wQ (by rw [decide_eq_true c1]; rfl) rfl))
  ·by_cases c2:at' (row l j) i>15
   ·exact .inr (hr _ (wQ (by rw [decide_eq_false c1,decide_eq_true c2]; rfl) rfl))
   ·have hf:(bif decide (at' (row l j) i<0) then true else decide (at' (row l j) i>15))=false:=by rw [decide_eq_false c1,decide_eq_false c2]; rfl
    rcases ih m (i+1) (by omega) (by omega) (by omega) with ⟨h1,h2⟩ | h1
    ·refine .inl ⟨hr _ (wM hf h1),fun q q1 q2=>?_⟩
     by_cases e:q=i
     ·subst e; omega
     ·exact h2 q (by omega) q2
    ·exact .inr (hr _ (wM hf h1))
theorem UB (l:List (List Int)) (p0 p1 p2 p3 p4 p5 p6 p7 p8 p9:Int) (hl:l.length<=10) (hB:0<=p3/\p3<=100) (k:Nat):∀ (m:Nat) (j:Int),k<m->0<=j->j+k=(l.length:Int) →
  (wG.l0 5000 l (l.length:Int) p0 p1 p2 p3 p4 p5 p6 p7 p8 p9 m j=some (.inl ())/\∀ c,j<=c->c<(l.length:Int)->((row l c).length:Int)=p3/\∀ q,0<=q->q<p3->0<=at' (row l c) q/\at' (row l c) q<=15)\/wG.l0 5000 l (l.length:Int) p0 p1 p2 p3 p4 p5 p6 p7 p8 p9 m j=some (.inr 1):=by
 induction k with
 | zero =>
  intro m j hm h0 hj
  obtain ⟨m,rfl⟩:∃ q,m=q+1:=⟨m-1,by omega⟩
  refine .inl ⟨?_,fun q h1 h2=>by omega⟩
  show wG.r0 5000 l (l.length:Int) p0 p1 p2 p3 p4 p5 p6 p7 p8 p9 (wG.l0 5000 l (l.length:Int) p0 p1 p2 p3 p4 p5 p6 p7 p8 p9 m) j=_
  exact wM (decide_eq_false (by omega)) rfl
 | succ k ih =>
  intro m j hm h0 hj
  obtain ⟨m,rfl⟩:∃ q,m=q+1:=⟨m-1,by omega⟩
  by_cases c1:((row l j).length:Int)=p3
  ·have hi:=GC l (l.length:Int) j p0 p1 p2 p3 p4 p5 p6 p7 p8 p9 ⟨h0,by omega⟩ c1 hB.2 p3.toNat 5000 0 (by omega) (by omega) (by omega)
   rcases hi with ⟨i1,i2⟩ | i1
   ·rcases ih m (j+1) (by omega) (by omega) (by omega) with ⟨h1,h2⟩ | h1
    ·refine .inl ⟨?_,fun c c0 cl=>?_⟩
     ·show wG.r0 5000 l (l.length:Int) p0 p1 p2 p3 p4 p5 p6 p7 p8 p9 (wG.l0 5000 l (l.length:Int) p0 p1 p2 p3 p4 p5 p6 p7 p8 p9 m) j=_
      refine wQ (decide_eq_true (by omega)) (qi ⟨h0,by omega⟩ (wM (by simpa using c1) (wJ i1 ?_)))
      dsimp only
      rw [qA (x:=j+1) (by omega) (by omega)]; exact h1
     ·by_cases e:c=j
      ·subst e; exact ⟨c1,i2⟩
      ·exact h2 c (by omega) cl
    ·refine .inr ?_
     show wG.r0 5000 l (l.length:Int) p0 p1 p2 p3 p4 p5 p6 p7 p8 p9 (wG.l0 5000 l (l.length:Int) p0 p1 p2 p3 p4 p5 p6 p7 p8 p9 m) j=_
     refine wQ (decide_eq_true (by omega)) (qi ⟨h0,by omega⟩ (wM (by simpa using c1) (wJ i1 ?_)))
     dsimp only
     rw [qA (x:=j+1) (by omega) (by omega)]; exact h1
   ·refine .inr ?_
    show wG.r0 5000 l (l.length:Int) p0 p1 p2 p3 p4 p5 p6 p7 p8 p9 (wG.l0 5000 l (l.length:Int) p0 p1 p2 p3 p4 p5 p6 p7 p8 p9 m) j=_
    exact wQ (decide_eq_true (by omega)) (qi ⟨h0,by omega⟩ (wM (by simpa using c1) (wJ i1 rfl)))
  ·refine .inr ?_
   show wG.r0 5000 l (l.length:Int) p0 p1 p2 p3 p4 p5 p6 p7 p8 p9 (wG.l0 5000 l (l.length:Int) p0 p1 p2 p3 p4 p5 p6 p7 p8 p9 m) j=_
   exact wQ (decide_eq_true (by omega)) (qi ⟨h0,by omega⟩ (wQ (by simpa using c1) rfl))
theorem Gm (l:List (List Int)) (p0 p1 p2 p3 p4 p5 p6 p7 p8 p9:Int) (hl:l.length<=10) (hB:0<=p3/\p3<=100) (hf:∀ c,0<=c->c<(l.length:Int)->((row l c).length:Int)=p3/\∀ q,0<=q->q<p3->0<=at' (row l c) q/\at' (row l c) q<=15) (k:Nat):∀ (m:Nat) (j:Int),k<m->0<=j->j+k=(l.length:Int) →
  wG.l0 5000 l (l.length:Int) p0 p1 p2 p3 p4 p5 p6 p7 p8 p9 m j≠some (.inr 1):=by
 induction k with
 | zero =>
  intro m j hm h0 hj
  obtain ⟨m,rfl⟩:∃ q,m=q+1:=⟨m-1,by omega⟩
  have:wG.l0 5000 l (l.length:Int) p0 p1 p2 p3 p4 p5 p6 p7 p8 p9 (m+1) j=some (.inl ()):=by
   show wG.r0 5000 l (l.length:Int) p0 p1 p2 p3 p4 p5 p6 p7 p8 p9 (wG.l0 5000 l (l.length:Int) p0 p1 p2 p3 p4 p5 p6 p7 p8 p9 m) j=_
   exact wM (decide_eq_false (by omega)) rfl
  rw [this]; intro h; cases h
 | succ k ih =>
  intro m j hm h0 hj
  obtain ⟨m,rfl⟩:∃ q,m=q+1:=⟨m-1,by omega⟩
  obtain ⟨c1,c2⟩:=hf j h0 (by omega)
  have ok:∀ (k':Nat) (m':Nat) (i:Int),k'<m'->0<=i->i+k'=p3->wG.l1 5000 l (l.length:Int) j (row l j) ((row l j).length:Int) p0 p1 p2 p3 p4 p5 p6 p7 p8 p9 m' i=some (.inl ()):=by
   intro k'
   induction k' with
   | zero =>
    intro m' i hm' hi0 hi
    obtain ⟨m',rfl⟩:∃ q,m'=q+1:=⟨m'-1,by omega⟩
    show wG.r1 5000 l (l.length:Int) j (row l j) ((row l j).length:Int) p0 p1 p2 p3 p4 p5 p6 p7 p8 p9 (wG.l1 5000 l (l.length:Int) j (row l j) ((row l j).length:Int) p0 p1 p2 p3 p4 p5 p6 p7 p8 p9 m') i=_
    exact wM (decide_eq_false (by omega)) rfl
   | succ k' ih' =>
    intro m' i hm' hi0 hi
    obtain ⟨m',rfl⟩:∃ q,m'=q+1:=⟨m'-1,by omega⟩
    have q:=c2 i hi0 (by omega)
    show wG.r1 5000 l (l.length:Int) j (row l j) ((row l j).length:Int) p0 p1 p2 p3 p4 p5 p6 p7 p8 p9 (wG.l1 5000 l (l.length:Int) j (row l j) ((row l j).length:Int) p0 p1 p2 p3 p4 p5 p6 p7 p8 p9 m') i=_
    refine wQ (decide_eq_true (by omega)) (qi ⟨hi0,by omega⟩ (wM ?_ ?_))
    ·show (bif decide (at' (row l j) i<0) then true else decide (at' (row l j) i>15))=false
     rw [decide_eq_false (by omega),decide_eq_false (by omega)]; rfl
    ·dsimp only
     rw [qA (x:=i+1) (by omega) (by omega)]; exact ih' m' (i+1) (by omega) (by omega) (by omega)
  have:wG.l0 5000 l (l.length:Int) p0 p1 p2 p3 p4 p5 p6 p7 p8 p9 (m+1) j=wG.l0 5000 l (l.length:Int) p0 p1 p2 p3 p4 p5 p6 p7 p8 p9 m (j+1):=by
   show wG.r0 5000 l (l.length:Int) p0 p1 p2 p3 p4 p5 p6 p7 p8 p9 (wG.l0 5000 l (l.length:Int) p0 p1 p2 p3 p4 p5 p6 p7 p8 p9 m) j=_
   refine wQ (decide_eq_true (by omega)) (qi ⟨h0,by omega⟩ (wM (by simpa using c1) (wJ (ok p3.toNat 5000 0 (by omega) (by omega) (by omega)) ?_)))
   dsimp only
   rw [qA (x:=j+1) (by omega) (by omega)]
  rw [this]; exact ih m (j+1) (by omega) (by omega) (by omega)
theorem KP (p0 p1 p2 p3 p4 p5 p6 p7 p8 p9:Int) (l:List (List Int)) (hm:yf p0 p1 p2 p3 p4 p5 p6 p7 p8 p9):wG 5000 p0 p1 p2 p3 p4 p5 p6 p7 p8 p9 l=some 0/\Fit p0 p1 p2 p3 p4 p5 p6 p7 p8 p9 l\/wG 5000 p0 p1 p2 p3 p4 p5 p6 p7 p8 p9 l=some 1/\¬ Fit p0 p1 p2 p3 p4 p5 p6 p7 p8 p9 l:=by
 have hc:kz 5000 p0 p1 p2 p3 p4 p5 p6 p7 p8 p9=some 0:=(XG p0 p1 p2 p3 p4 p5 p6 p7 p8 p9).trans (by rw [if_pos (show okP p0 p1 p2 p3 p4 p5 p6 p7 p8 p9 from .inl hm)])
 have e1:p0=1:=hm.1.1
 have hr:∀ z,(bif ((l.length:Int) != p2) then some 1 else (wG.l0 5000 l (l.length:Int) p0 p1 p2 p3 p4 p5 p6 p7 p8 p9 5000 0).bind fun z=>match z with | .inl _=>some 0 | .inr r=>some r)=z->wG 5000 p0 p1 p2 p3 p4 p5 p6 p7 p8 p9 l=z:=by
  intro z hz
  exact wJ hc (wM (by rw [e1]; rfl) hz)
 have h2:p2=1\/p2=2:=hm.1.2.2.2.1
 have h3:p3=4\/p3=8:=hm.1.2.2.2.2.1
 by_cases c1:(l.length:Int)=p2
 ·rcases UB l p0 p1 p2 p3 p4 p5 p6 p7 p8 p9 (by omega) (by omega) l.length 5000 0 (by omega) (by omega) (by omega) with ⟨i1,i2⟩ | i1
  ·exact .inl ⟨hr _ (wM (by simpa using c1) (wJ i1 rfl)),hm,c1,fun c c0 cl=>i2 c c0 (by omega)⟩
  ·refine .inr ⟨hr _ (wM (by simpa using c1) (wJ i1 rfl)),fun hf=>?_⟩
   exact absurd i1 (Gm l p0 p1 p2 p3 p4 p5 p6 p7 p8 p9 (by omega) (by omega) (fun c c0 cl=>hf.2.2 c c0 (by omega)) l.length 5000 0 (by omega) (by omega) (by omega))
 ·exact .inr ⟨hr _ (wQ (by simpa using c1) rfl),fun hf=>c1 hf.2.1⟩
end Go.Fo
