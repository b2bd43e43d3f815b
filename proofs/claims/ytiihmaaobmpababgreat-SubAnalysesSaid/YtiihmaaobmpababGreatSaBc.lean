/- The shares are at most the pool. -/
import Derived.Test.YtiihmaaobmpababGreatSaBb
namespace Go.Fo
set_option maxRecDepth 6000
def sm (z:Int->Int) (N:Nat):Int:=itr N (fun i a=>a+z i) 0
theorem uq (z:Int->Int) (n:Nat):sm z (n+1)=sm z n+z n:=rfl
theorem QI (z:Int->Int) (i:Nat) (v:Int):∀ n:Nat,sm (upd z i v) n=if i<n then sm z n-z i+v else sm z n
 | 0=>by rw [if_neg (by omega)]; rfl
 | n+1=>by
  rw [uq,uq,QI z i v n]
  unfold upd
  by_cases e:i<n
  ·rw [if_pos e,if_neg (by omega),if_pos (by omega)]; omega
  ·rw [if_neg e]
   by_cases e2:i=n
   ·rw [if_pos (by omega),if_pos (by omega),e2]; omega
   ·rw [if_neg (by omega),if_neg (by omega)]
theorem Qm (h:Int->Int) (a b:Int):∀ n:Nat,(∀ i:Int,n<=i->(itr n (sset h a) (b,fun _=>0)).2 i=0)/\(∀ i:Int,0<=i->i<n->(itr n (sset h a) (b,fun _=>0)).2 i=GG (h i-a))/\sm (itr n (sset h a) (b,fun _=>0)).2 n=tot h n a
 | 0=>⟨fun _ _=>rfl,fun i _ _=>by omega,rfl⟩
 | n+1=>by
  obtain ⟨h1,h2,h3⟩:=Qm h a b n
  have e0:(itr (n+1) (sset h a) (b,fun _=>0)).2=if h n>=a+2 then upd (itr n (sset h a) (b,fun _=>0)).2 n (imin (h n-a) 16) else (itr n (sset h a) (b,fun _=>0)).2:=rfl
  have hg:(if h n>=a+2 then imin (h n-a) 16 else 0)=GG (h n-a):=by
   unfold GG imin
   by_cases c:h n>=a+2
   ·rw [if_pos c]; split<;>(split<;>(try split)<;>omega)
   ·rw [if_neg c,if_pos (by omega)]
  rw [e0]
  generalize (itr n (sset h a) (b,fun _=>0)).2=z at *
  have ht:tot h (n+1) a=tot h n a+GG (h n-a):=rfl
  by_cases c:h n>=a+2
  ·rw [if_pos c] at hg ⊢
   refine ⟨fun i hi=>?_,fun i i0 i1=>?_,?_⟩
   ·unfold upd; rw [if_neg (by omega)]; exact h1 i (by omega)
   ·unfold upd
    by_cases e:i=n
    ·rw [if_pos e,e]; exact hg
    ·rw [if_neg e]; exact h2 i i0 (by omega)
   ·rw [QI,if_pos (by omega),uq,h1 n (Int.le_refl _),ht,<-hg,h3]; omega
  ·rw [if_neg c] at hg ⊢
   refine ⟨fun i hi=>h1 i (by omega),fun i i0 i1=>?_,?_⟩
   ·by_cases e:i=n
    ·rw [e,h1 n (Int.le_refl _),hg]
    ·exact h2 i i0 (by omega)
   ·rw [uq,h1 n (Int.le_refl _),ht,<-hg,h3]
theorem K2 (new:Bool) (pool s:Int) (h:Int->Int) (N:Nat) (a:Int × (Int->Int)) (ha:a.1=sm a.2 N/\a.1<=pool) (hz:new=true->∀ i:Nat,h i=s+1->a.2 i=0):∀ n:Nat,n<=N →
  (itr n (mst new pool s h) a).1=sm (itr n (mst new pool s h) a).2 N/\(itr n (mst new pool s h) a).1<=pool/\∀ i:Nat,n<=i->(itr n (mst new pool s h) a).2 i=a.2 i
 | 0,_=>⟨ha.1,ha.2,fun _ _=>rfl⟩
 | n+1,hn=>by
  obtain ⟨h1,h2,h3⟩:=K2 new pool s h N a ha hz n (by omega)
  have e0:itr (n+1) (mst new pool s h) a=mst new pool s h n (itr n (mst new pool s h) a):=rfl
  have h4:=h3 n (Nat.le_refl _)
  rw [e0]
  generalize itr n (mst new pool s h) a=q at *
  unfold mst
  by_cases c1:q.1>=pool
  ·rw [if_pos c1]; exact ⟨h1,h2,fun i hi=>h3 i (by omega)⟩
  ·rw [if_neg c1]
   by_cases c2:2<=q.2 n/\q.2 n<16
   ·rw [if_pos c2]
    refine ⟨?_,by show q.1+1<=pool; omega,fun i hi=>?_⟩
    ·show q.1+1=sm (upd q.2 n (q.2 n+1)) N
     rw [QI,if_pos (by omega)]; omega
    ·show upd q.2 n (q.2 n+1) i=a.2 i
     unfold upd; rw [if_neg (by omega)]; exact h3 i (by omega)
   ·rw [if_neg c2]
    by_cases c3:new=true/\h n=s+1/\pool>q.1+1
    ·rw [if_pos c3]
     have z0:q.2 n=0:=by rw [h4]; exact hz c3.1 n c3.2.1
     refine ⟨?_,by show q.1+2<=pool; omega,fun i hi=>?_⟩
     ·show q.1+2=sm (upd q.2 n 2) N
      rw [QI,if_pos (by omega)]; omega
     ·show upd q.2 n 2 i=a.2 i
      unfold upd; rw [if_neg (by omega)]; exact h3 i (by omega)
    ·rw [if_neg c3]; exact ⟨h1,h2,fun i hi=>h3 i (by omega)⟩
theorem Vu (h:Int->Int) (N:Nat) (pool a b:Int) (hb:b<=pool) (ht:b=tot h N a):sm (shr h N pool a b).2 N<=pool:=by
 obtain ⟨_,g2,g3⟩:=Qm h a b N
 have hg1:GG 1=0:=rfl
 have m1:=K2 true pool a h N (b,(itr N (sset h a) (b,fun _=>0)).2) ⟨by rw [g3]; exact ht,hb⟩ (fun _ i hi=>by
  by_cases e:i<N
  ·show (itr N (sset h a) (b,fun _=>0)).2 i=0
   rw [g2 i (by omega) (by omega),hi,show a+1-a=1 by omega]; rfl
  ·exact (Qm h a b N).1 i (by omega)) N (Nat.le_refl _)
 have m2:=K2 false pool a h N _ ⟨m1.1,m1.2.1⟩ (fun h=>by cases h) N (Nat.le_refl _)
 unfold shr
 rw [<-m2.1]; exact m2.2.1
end Go.Fo
