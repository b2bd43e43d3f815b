/- Packing,exactly. -/
import Derived.Test.YtiihmaaobmpabaaGreatSfEb
namespace Go.Fo
set_option maxRecDepth 6000
theorem Xm {A l:List (Int × Int)} {n:Nat} (hl:l.length<=1000) (hn:n<=600) (hf:∀ q∈l,Zr q) (hx:wid (A++l)<=8*n):wV 5000 l (wid A:Int) 0 (pk n (bns A))=some ((wid l:Int),(wid (A++l):Int),pk n (bns (A++l))):=by
 have h:=MQ (n:=n) hl (yl A) hn (fun i hi=>by rw [List.getD_eq_getElem?_getD,List.getElem?_eq_getElem hi]; exact hf _ (List.getElem_mem hi)) (by rw [jr] at hx; exact hx)
 rw [jj,jr]; exact h
theorem Zj (p0 p1 p2 p3 p4 p5 p6 p7 p8 p9:Int) (hm:yd p0 p1 p2 p3 p4 p5 p6 p7 p8 p9):∀ q∈j4 p1 p2 p3 p4 p5 p6 p7,Zr q:=by
 obtain ⟨⟨_,g1,g1',h2,h3,h4,h5,h6,g7,g7',_⟩,_⟩:=hm
 intro q hq
 simp only [j4,List.mem_cons,List.not_mem_nil,or_false] at hq
 rcases hq with rfl | rfl | rfl | rfl | rfl | rfl
 ·exact ⟨by show (0:Int)<=2; decide,by show (2:Int)<=32; decide,g1,by show p1<4; omega⟩
 ·exact ⟨by show (0:Int)<=2; decide,by show (2:Int)<=32; decide,by show 0<=p4/4-1; omega,by show p4/4-1<4; omega⟩
 ·refine ⟨by show (0:Int)<=2; decide,by show (2:Int)<=32; decide,?_,?_⟩
  ·show 0<=if p2=2 then 2+p6 else 0
   split<;>omega
  ·show (if p2=2 then 2+p6 else 0)<4
   split<;>omega
 ·exact ⟨by show (0:Int)<=1; decide,by show (1:Int)<=32; decide,by show 0<=p5; omega,by show p5<2; omega⟩
 ·exact ⟨by show (0:Int)<=1; decide,by show (1:Int)<=32; decide,by show 0<=p3/4-1; omega,by show p3/4-1<2; omega⟩
 ·exact ⟨by show (0:Int)<=8; decide,by show (8:Int)<=32; decide,by show 0<=p7; omega,by show p7<256; omega⟩
theorem XS {l:List Int} {k:Int} (hk:0<=k/\k<=32) (h:∀ i,0<=i->i<(l.length:Int)->0<=at' l i/\at' l i<2^k.toNat):∀ q∈tg l k,Zr q:=by
 intro q hq
 obtain ⟨i,hi,rfl⟩:=List.mem_map.mp hq
 have:=h i (by omega) (by have:=List.mem_range.mp hi; omega)
 exact ⟨hk.1,hk.2,this.1,this.2⟩
theorem Zf (p0 p1 p2 p3 p4 p5 p6 p7 p8 p9:Int) {J:List Int} {S:List (List Int)} (hf:Fit p0 p1 p2 p3 p4 p5 p6 p7 p8 p9 S) (hj:Jn p0 p1 p2 p3 p4 p5 p6 p7 p8 p9 J):∀ q∈kX p6 J++j6 S,Zr q:=by
 intro q hq
 rcases List.mem_append.mp hq with hq | hq
 ·unfold kX at hq
  split at hq
  ·refine XS (by decide) ?_ q hq
   intro i h0 h1
   rcases hj.2 i h0 (by have:=hj.1; omega) with e | ⟨_,e⟩<;>rw [e]<;>decide
  ·cases hq
 ·obtain ⟨c,hc,hq⟩:=List.mem_flatMap.mp hq
  have hc:=List.mem_range.mp hc
  have hS:=hf.2.1
  have hr:=hf.2.2 c (by omega) (by omega)
  refine XS (by decide) ?_ q hq
  intro i h0 h1
  have:=hr.2 i h0 (by have:=hr.1; omega)
  exact ⟨this.1,by show at' (row S c) i<16; omega⟩
theorem K5 {q s w:Int} (h:lev q s w):Zr (q,w):=by
 obtain ⟨⟨_,_,hw⟩,h0,h1,h2⟩:=h
 refine ⟨by show 0<=w; omega,by show w<=32; omega,h0,?_⟩
 show q<2^w.toNat
 rcases hw with e | e
 ·rw [h1 e,e]; decide
 ·have:=h2 (by omega); omega
theorem Qi (p0 p1 p2 p3 p4 p5 p6 p7 p8 p9:Int) {J:List Int} {S:List (List Int)} {Q:List (List (List Int))} {sh:List (List Int)} (hv:PV p0 p1 p2 p3 p4 p5 p6 p7 p8 p9 J S Q sh):∀ q∈y5 sh Q,Zr q:=by
 obtain ⟨_,_,hc,hl⟩:=hv
 intro q hq
 obtain ⟨i,hi,hq⟩:=List.mem_flatMap.mp hq
 obtain ⟨c,hcc,hq⟩:=List.mem_flatMap.mp hq
 obtain ⟨b,hb,rfl⟩:=List.mem_map.mp hq
 have hi:=List.mem_range.mp hi
 have hcc:=List.mem_range.mp hcc
 have hb:=List.mem_range.mp hb
 have a1:=hc.1
 have a2:=hc.2 i (by omega) (by omega)
 have a3:=a2.1
 have a4:=a2.2 c (by omega) (by omega)
 exact K5 (hl i (by omega) (by omega) c (by omega) (by omega) b (by omega) (by omega))
def frL (p1 p2 p3 p4 p5 p6 p7 s:Int) (J:List Int) (S:List (List Int)) (Q:List (List (List Int))) (sh:List (List Int)):List (Int × Int):=JA p1 p2 p3 p4 p5 p6 p7 s++(kX p6 J++j6 S)++y5 sh Q
theorem VP:∀ n,List.replicate n (0:Int)=pk n (bns []):=by
 intro n
 apply List.ext_getElem
 ·simp [pk]
 ·intro i h1 h2
  simp only [pk,List.getElem_replicate,List.getElem_map]; rfl
theorem ux {C B:Nat} {z:Int->Int}:Sh C B (rw_ C B z):=⟨by rw [j3],fun c h0 h1=>by have:=v4 (C:=C) (B:=B) (z:=z) (c:=c.toNat) (by omega); rw [show ((c.toNat:Nat):Int)=c by omega] at this; omega⟩
theorem Q9 (new:Bool) (pool s:Int) (h:Int->Int) (a:Int × (Int->Int)) (ha:∀ j,a.2 j≠1):∀ (n:Nat) (j:Int),(itr n (mst new pool s h) a).2 j≠1
 | 0,j=>ha j
 | n+1,j=>by
  have ih:=Q9 new pool s h a ha n
  show (mst new pool s h n (itr n (mst new pool s h) a)).2 j≠1
  generalize itr n (mst new pool s h) a=q at *
  have ij:=ih j
  unfold mst
  by_cases c1:q.1>=pool
  ·rw [if_pos c1]; exact ij
  ·rw [if_neg c1]
   by_cases c2:2<=q.2 n/\q.2 n<16
   ·rw [if_pos c2]
    show (if j=(n:Int) then q.2 n+1 else q.2 j)≠1
    split<;>omega
   ·rw [if_neg c2]
    by_cases c3:new=true/\h n=s+1/\pool>q.1+1
    ·rw [if_pos c3]
     show (if j=(n:Int) then 2 else q.2 j)≠1
     split<;>omega
    ·rw [if_neg c3]; exact ij
theorem Jr (h:Int->Int) (s b:Int):∀ (n:Nat) (i:Int),(itr n (sset h s) (b,fun _=>0)).2 i≠1
 | 0,i=>by show (0:Int)≠1; decide
 | n+1,i=>by
  have ih:=Jr h s b n i
  show (if h n>=s+2 then upd (itr n (sset h s) (b,fun _=>0)).2 n (imin (h n-s) 16) else (itr n (sset h s) (b,fun _=>0)).2) i≠1
  by_cases c:h n>=s+2
  ·rw [if_pos c]
   unfold upd
   by_cases e:i=n
   ·rw [if_pos e]; unfold imin; split<;>omega
   ·rw [if_neg e]; exact ih
  ·rw [if_neg c]; exact ih
theorem X7 (h:Int->Int) (N:Nat) (pool a b:Int) (i:Int):(shr h N pool a b).2 i≠1:=Q9 false pool a h _ (Q9 true pool a h (b,(itr N (sset h a) (b,fun _=>0)).2) (Jr h a b N) N) N i
structure Shr (p0 p1 p2 p3 p4 p5 p6 p7 p8 p9:Int) (S:List (List Int)) (C B:Nat) (z:Int->Int):Prop where
  hC:(C:Int)=p2
  hB:(B:Int)=p3
  hf:Fit p0 p1 p2 p3 p4 p5 p6 p7 p8 p9 S
  hz:∀ i,0<=z i/\z i<=16
  h1:∀ i,z i≠1
  hs:sm z (B*C)<=p7
  ha:zp 5000 p0 p1 p2 p3 p4 p5 p6 p7 p8 p9 S=some (rw_ C B z,0)
theorem Uy (p0 p1 p2 p3 p4 p5 p6 p7 p8 p9:Int) {S:List (List Int)} (hf:Fit p0 p1 p2 p3 p4 p5 p6 p7 p8 p9 S):∃ C B z,Shr p0 p1 p2 p3 p4 p5 p6 p7 p8 p9 S C B z:=by
 have h2:p2=1\/p2=2:=hf.1.1.2.2.2.1
 have h3:p3=4\/p3=8:=hf.1.1.2.2.2.2.1
 have hm:wS 5000 p0 p1 p2 p3 p4 p5 p6 p7 p8 p9 S=some 0:=by
  rcases Ua p0 p1 p2 p3 p4 p5 p6 p7 p8 p9 S hf.1 with h | h
  ·exact h.1
  ·exact absurd hf h.2
 obtain ⟨a,b,_,_,_,h4,h5,h6,h7⟩:=Gj hf hm p2.toNat p3.toNat (by omega) (by omega)
 exact ⟨_,_,_,⟨by omega,by omega,hf,h7,X7 _ _ _ _ _,Ub _ _ _ a b h4 h5,h6⟩⟩
theorem Yq (p0 p1 p2 p3 p4 p5 p6 p7 p8 p9:Int) {J:List Int} {S:List (List Int)} {Q:List (List (List Int))} {C B:Nat} {z:Int->Int} (h:Shr p0 p1 p2 p3 p4 p5 p6 p7 p8 p9 S C B z) (hv:PV p0 p1 p2 p3 p4 p5 p6 p7 p8 p9 J S Q (rw_ C B z)) (s:Int):wid (frL p1 p2 p3 p4 p5 p6 p7 s J S Q (rw_ C B z))<=8*(vn p2 p3 p4 p6 p7).toNat:=by
 have hm:=h.hf.1
 have h2:p2=1\/p2=2:=hm.1.2.2.2.1
 have h3:p3=4\/p3=8:=hm.1.2.2.2.2.1
 have h4:p4=4\/p4=8\/p4=12\/p4=16:=hm.1.2.2.2.2.2.1
 have h6:p6=0\/(p6=1/\p2=2):=hm.1.2.2.2.2.2.2.2.1
 have hz:=Ks p0 p1 p2 p3 p4 p5 p6 p7 p8 p9 hm
 have hC:=h.hC
 have hB:=h.hB
 have w1:=Kn p1 p2 p3 p4 p5 p6 p7 s
 have w2:=W6 p6 J (by omega)
 rw [hv.1.1] at w2
 have w3:=ZS (C:=p2) (N:=p3) (S:=S) ⟨h.hf.2.1,fun c a b=>(h.hf.2.2 c a b).1⟩ (by omega)
 have hq:Cd p4 C B Q:=by rw [hC,hB]; exact hv.2.2.1
 have w4:=Vf (M:=p4) (C:=C) (N:=B) (z:=z) (Q:=Q) (by omega) (by omega) (fun i=>(h.hz i).1) hq
 have hle:p4*sm z (B*C)<=p4*p7:=Int.mul_le_mul_of_nonneg_left h.hs (by omega)
 unfold frL
 rw [jr,jr,jr,w1]
 unfold vn xH at *
 generalize p6*p3=e1 at *
 generalize 4*p3*p2=e2 at *
 generalize p4*p7=e3 at *
 generalize p4*sm z (B*C)=e4 at *
 omega
theorem V8 (p0 p1 p2 p3 p4 p5 p6 p7 p8 p9:Int) {J:List Int} {S:List (List Int)} {Q:List (List (List Int))} {sh:List (List Int)} (hf:Fit p0 p1 p2 p3 p4 p5 p6 p7 p8 p9 S) (hv:PV p0 p1 p2 p3 p4 p5 p6 p7 p8 p9 J S Q sh) {s:Int} (hs:0<=s/\s<256):∀ q∈frL p1 p2 p3 p4 p5 p6 p7 s J S Q sh,Zr q:=by
 intro q hq
 rcases List.mem_append.mp hq with hq | hq
 ·rcases List.mem_append.mp hq with hq | hq
  ·rcases List.mem_append.mp hq with hq | hq
   ·rcases List.mem_append.mp hq with hq | hq
    ·rw [List.mem_singleton.mp hq]; exact ⟨by decide,by decide,by decide,by decide⟩
    ·exact Zj p0 p1 p2 p3 p4 p5 p6 p7 p8 p9 hf.1 q hq
   ·rw [List.mem_singleton.mp hq]; exact ⟨by show (0:Int)<=8; decide,by show (8:Int)<=32; decide,hs.1,hs.2⟩
  ·exact Zf p0 p1 p2 p3 p4 p5 p6 p7 p8 p9 hf hv.1 q hq
 ·exact Qi p0 p1 p2 p3 p4 p5 p6 p7 p8 p9 hv q hq
theorem HE (p0 p1 p2 p3 p4 p5 p6 p7 p8 p9:Int) {J:List Int} {S:List (List Int)} {Q:List (List (List Int))} {C B:Nat} {z:Int->Int} (h:Shr p0 p1 p2 p3 p4 p5 p6 p7 p8 p9 S C B z) (hv:PV p0 p1 p2 p3 p4 p5 p6 p7 p8 p9 J S Q (rw_ C B z)) :
  ∃ s,(0<=s/\s<256)/\z8 5000 p0 p1 p2 p3 p4 p5 p6 p7 p8 p9 J S Q=some s/\qz 5000 p0 p1 p2 p3 p4 p5 p6 p7 p8 p9 J S Q=some (pk (vn p2 p3 p4 p6 p7).toNat (bns (frL p1 p2 p3 p4 p5 p6 p7 s J S Q (rw_ C B z))),0):=by
 have hm:=h.hf.1
 have hf:=h.hf
 have h2:p2=1\/p2=2:=hm.1.2.2.2.1
 have h3:p3=4\/p3=8:=hm.1.2.2.2.2.1
 have h4:p4=4\/p4=8\/p4=12\/p4=16:=hm.1.2.2.2.2.2.1
 have hpz:=Ks p0 p1 p2 p3 p4 p5 p6 p7 p8 p9 hm
 have hC:=h.hC
 have hB:=h.hB
 have hJ:=hv.1.1
 have hQ:=hv.2.2.1.1
 have hsh:Sh p2 p3 (rw_ C B z):=by rw [<-hC,<-hB]; exact ux
 obtain ⟨⟨sh',ok⟩,hsE,hs1,hs2⟩:=Xo p0 p1 p2 p3 p4 p5 p6 p7 p8 p9 J S Q hm (by omega) (by omega) hf hsh h.ha
 have hok:ok=true:=hs1.2 hv
 subst hok
 have hs2:sh'=rw_ C B z:=hs2 rfl
 subst hs2
 obtain ⟨s,hsum,hsr⟩:=ge p0 p1 p2 p3 p4 p5 p6 p7 p8 p9 Q hf hJ
 obtain ⟨_,hside,rfl,hside2⟩:=JL p0 p1 p2 p3 p4 p5 p6 p7 p8 p9 Q hf hJ
 obtain ⟨_,hcode,rfl,hcode2⟩:=gg (J:=J) (S:=S) p4 p2 p3 h2 h3 h4 hv.2.2.1 hsh
 refine ⟨s,hsr,hsum,?_⟩
 have hW:=Yq p0 p1 p2 p3 p4 p5 p6 p7 p8 p9 h hv s
 have hF:=V8 p0 p1 p2 p3 p4 p5 p6 p7 p8 p9 hf hv hsr
 have hc:=ZP (b:=pk (vn p2 p3 p4 p6 p7).toNat (bns (frL p1 p2 p3 p4 p5 p6 p7 s J S Q (rw_ C B z)))) (by rw [xy]; omega) (by rw [xy]; omega)
 obtain ⟨_,hc,rfl⟩:=hc
 generalize hn:(vn p2 p3 p4 p6 p7).toNat=n at *
 have hn6:n<=600:=by omega
 have w5:wid (JA p1 p2 p3 p4 p5 p6 p7 s++(kX p6 J++j6 S)++y5 (rw_ C B z) Q)<=8*n:=hW
 have w4:wid (JA p1 p2 p3 p4 p5 p6 p7 s++(kX p6 J++j6 S))<=8*n:=by rw [jr] at w5; omega
 have w3:wid (JA p1 p2 p3 p4 p5 p6 p7 s)<=8*n:=by rw [jr] at w4; omega
 have w2:wid ([(156,8)]++j4 p1 p2 p3 p4 p5 p6 p7)<=8*n:=by
  have e:wid ([(156,8)]++j4 p1 p2 p3 p4 p5 p6 p7)=24:=rfl
  rw [Kn] at w3; omega
 have w1:wid ([]++[((156:Int),(8:Int))])<=8*n:=by
  have e:wid ([]++[((156:Int),(8:Int))])=8:=rfl
  rw [Kn] at w3; omega
 refine wr ((Z0 p0 p1 p2 p3 p4 p5 p6 p7 p8 p9).trans (by rw [if_pos hm])) (wA rfl (wr hsE (wA rfl (wr (MO p0 p1 p2 p3 p4 p5 p6 p7 p8 p9 hm) (wr (UA (by omega) hpz.2) ?_)))))
 dsimp only
 rw [hn,VP]
 refine wr (Xm (A:=[]) (by decide) hn6 (fun q hq=>?_) w1) ?_
 ·rw [List.mem_singleton.mp hq]; exact ⟨by decide,by decide,by decide,by decide⟩
 refine wr (UH p0 p1 p2 p3 p4 p5 p6 p7 p8 p9 hm) (wr (Xm (A:=[(156,8)]) (by show 6<=1000; omega) hn6 (Zj p0 p1 p2 p3 p4 p5 p6 p7 p8 p9 hm) w2) (wr hsum ?_))
 refine wr (Xm (A:=[(156,8)]++j4 p1 p2 p3 p4 p5 p6 p7) (by show 1<=1000; omega) hn6 (fun q hq=>?_) w3) ?_
 ·rw [List.mem_singleton.mp hq]; exact ⟨by show (0:Int)<=8; decide,by show (8:Int)<=32; decide,hsr.1,hsr.2⟩
 refine wr hside (wr (Xm (A:=JA p1 p2 p3 p4 p5 p6 p7 s) (by omega) hn6 (Zf p0 p1 p2 p3 p4 p5 p6 p7 p8 p9 hf hv.1) w4) (wr hcode (wr (Xm (A:=JA p1 p2 p3 p4 p5 p6 p7 s++(kX p6 J++j6 S)) (by omega) hn6 (Qi p0 p1 p2 p3 p4 p5 p6 p7 p8 p9 hv) w5) (wr (wr hc rfl) rfl))))
end Go.Fo
