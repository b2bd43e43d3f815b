/- Packing,exactly. -/
import Derived.Test.YtiihmaaobmpababGreatSaEb
namespace Go.Fo
set_option maxRecDepth 6000
def frL (p1 p2 p3 p4 p5 p6 p7 s:Int) (J:List Int) (S:List (List Int)) (Q:List (List (List Int))) (sh:List (List Int)):List (Int × Int):=gH p1 p2 p3 p4 p5 p6 p7 s++(G1 p6 J++gq S)++GH sh Q
theorem XE {C B:Nat} {z:Int->Int}:Sh C B (rw_ C B z):=⟨by rw [jn],fun c h0 h1=>by have:=yI (C:=C) (B:=B) (z:=z) (c:=c.toNat) (by omega); rw [show ((c.toNat:Nat):Int)=c by omega] at this; omega⟩
theorem QH (new:Bool) (pool s:Int) (h:Int->Int) (a:Int × (Int->Int)) (ha:∀ j,a.2 j≠1):∀ (n:Nat) (j:Int),(itr n (mst new pool s h) a).2 j≠1
 | 0,j=>ha j
 | n+1,j=>by
  have ih:=QH new pool s h a ha n
  show (mst new pool s h n (itr n (mst new pool s h) a)).2 j≠1
  generalize itr n (mst new pool s h) a=q at *
  have ij:=ih j
  unfold mst
  by_cases c1:q.1>=pool
  ·rw [if_pos c1]; exact ij
  ·rw [if_neg c1]
   by_cases c2:2<=q.2 n/\q.2 n<16
   ·rw [if_pos c2]
    show (if j=(n:Int) then q.2 n+1 else q.2 j)≠1
    split<;>omega
   ·rw [if_neg c2]
    by_cases c3:new=true/\h n=s+1/\pool>q.1+1
    ·rw [if_pos c3]
     show (if j=(n:Int) then 2 else q.2 j)≠1
     split<;>omega
    ·rw [if_neg c3]; exact ij
theorem Kn (h:Int->Int) (s b:Int):∀ (n:Nat) (i:Int),(itr n (sset h s) (b,fun _=>0)).2 i≠1
 | 0,i=>by show (0:Int)≠1; decide
 | n+1,i=>by
  have ih:=Kn h s b n i
  show (if h n>=s+2 then upd (itr n (sset h s) (b,fun _=>0)).2 n (imin (h n-s) 16) else (itr n (sset h s) (b,fun _=>0)).2) i≠1
  by_cases c:h n>=s+2
  ·rw [if_pos c]
   unfold upd
   by_cases e:i=n
   ·rw [if_pos e]; unfold imin; split<;>omega
   ·rw [if_neg e]; exact ih
  ·rw [if_neg c]; exact ih
theorem Xr (h:Int->Int) (N:Nat) (pool a b:Int) (i:Int):(shr h N pool a b).2 i≠1:=QH false pool a h _ (QH true pool a h (b,(itr N (sset h a) (b,fun _=>0)).2) (Kn h a b N) N) N i
structure Shr (p0 p1 p2 p3 p4 p5 p6 p7 p8 p9:Int) (S:List (List Int)) (C B:Nat) (z:Int->Int):Prop where
  hC:(C:Int)=p2
  hB:(B:Int)=p3
  hf:Fit p0 p1 p2 p3 p4 p5 p6 p7 p8 p9 S
  hz:∀ i,0<=z i/\z i<=16
  h1:∀ i,z i≠1
  hs:sm z (B*C)<=p7
  ha:zd 5000 p0 p1 p2 p3 p4 p5 p6 p7 p8 p9 S=some (rw_ C B z,0)
theorem Vv (p0 p1 p2 p3 p4 p5 p6 p7 p8 p9:Int) {S:List (List Int)} (hf:Fit p0 p1 p2 p3 p4 p5 p6 p7 p8 p9 S):∃ C B z,Shr p0 p1 p2 p3 p4 p5 p6 p7 p8 p9 S C B z:=by
 have h2:p2=1\/p2=2:=hf.1.1.2.2.2.1
 have h3:p3=4\/p3=8:=hf.1.1.2.2.2.2.1
 have hm:wG 5000 p0 p1 p2 p3 p4 p5 p6 p7 p8 p9 S=some 0:=by
  rcases KP p0 p1 p2 p3 p4 p5 p6 p7 p8 p9 S hf.1 with h | h
  ·exact h.1
  ·exact absurd hf h.2
 obtain ⟨a,b,_,_,_,h4,h5,h6,h7⟩:=XM hf hm p2.toNat p3.toNat (by omega) (by omega)
 exact ⟨_,_,_,⟨by omega,by omega,hf,h7,Xr _ _ _ _ _,Vu _ _ _ a b h4 h5,h6⟩⟩
end Go.Fo
