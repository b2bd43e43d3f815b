/- The document's frame is the program's. -/
import Derived.Test.YtiihmaaobmpabaaGreatSfUg
namespace Go.Fo
set_option maxRecDepth 6000
theorem ue (M:List Int):((List.range M.length).map fun i=>(b1 M i).toNat)=jS M:=by
 unfold jS
 apply List.ext_getElem
 ·simp
 ·intro i h1 h2
  have hi:i<M.length:=by simpa using h1
  rw [List.getElem_map,List.getElem_range,List.getElem_map]
  unfold b1
  rw [List.getD_eq_getElem?_getD,List.getElem?_eq_getElem hi]; rfl
theorem M9:((List.range 256).all fun s=>(List.range 2).all fun b=>jg 5000 8 15 29 (s:Int) (b:Int)==some ((nx s b:Nat):Int))=true:=by kernel_rfl
theorem HB {s b:Nat} (hs:s<256) (hb:b<2):jg 5000 8 15 29 (s:Int) (b:Int)=some ((nx s b:Nat):Int):=by
 have h:=List.all_eq_true.mp (List.all_eq_true.mp M9 s (List.mem_range.mpr hs)) b (List.mem_range.mpr hb)
 exact beq_iff_eq.mp h
theorem u7 {M:List Int} {n:Nat} (hM:Bit M) (hn:n<=600) (hk:M.length<=8*n):Ok (fun r=>r=((crc 15 (jS M):Nat):Int)) (qC 5000 8 15 29 (pk n M) (M.length:Int)):=by
 refine Ok.bind (Q:=fun r=>r=((crc 15 (jS M):Nat):Int)) ?_ (fun r hr=>Ok.some hr)
 unfold qC.l0
 refine wu (fun s i=>0<=i/\i<=(M.length:Int)/\s=((crc 15 ((List.range i.toNat).map fun i=>(b1 M i).toNat):Nat):Int)) (fun _ i=>((M.length:Int)-i).toNat) _ ?_ 5000 _ _ ⟨by omega,by omega,rfl⟩ (by omega)
 rintro next s i ⟨h1,h2,h3⟩ ih
 refine Ok.ite (fun d=>?_) (fun d=>Ok.some ?_)
 ·have d:=dt d
  have e1:wa .i64 (Int.tdiv i 8)=i/8:=by rw [Int.tdiv_eq_ediv_of_nonneg h1,zH (by omega) (by omega)]
  have e2:wa .i64 (7-Int.tmod i 8)=7-i%8:=by rw [Int.tmod_eq_emod_of_nonneg h1,zH (by omega) (by omega)]
  have hpr:=Je hM (i.toNat/8)
  have hpb:=GP hM (i.toNat/8) (i.toNat%8) (Nat.mod_lt _ (by decide))
  rw [show 8*(i.toNat/8)+i.toNat%8=i.toNat by omega] at hpb
  have hbit:=hM i.toNat
  dsimp only
  rw [e1,e2]
  refine Ok.gd ⟨by omega,by rw [xy]; omega⟩ (Ok.gd (by omega) ?_)
  have hat:Kd.nth (.int .u8) (pk n M) (Int.toNat (i/8))=pby M (i.toNat/8):=by rw [show Int.toNat (i/8)=i.toNat/8 by omega,VX (by omega)]
  have hv:kand .u32 (kshr .u32 (wa .u32 (Kd.nth (.int .u8) (pk n M) (Int.toNat (i/8)))) (7-i%8)) 1=(((b1 M i.toNat).toNat:Nat):Int):=by
   have hq:0<=pby M (i.toNat/8)/2^(7-i.toNat%8)/\pby M (i.toNat/8)/2^(7-i.toNat%8)<4294967296:=by
    have p:=Int.pow_pos (n:=2) (m:=7-i.toNat%8) (by decide)
    have a1:=Int.ediv_nonneg hpr.1 (Int.le_of_lt p)
    have a2:=Int.ediv_le_self (2^(7-i.toNat%8)) hpr.1
    omega
   rw [hat,Z6 hpr.1 (by omega),show (7-i%8:Int)=((7-i.toNat%8:Nat):Int) by omega,V7 (by omega),gG hq.1 hq.2,hpb]
   omega
  rw [hv,h3]
  have hb2:(b1 M i.toNat).toNat<2:=by omega
  have hbn:Bn ((List.range i.toNat).map fun i=>(b1 M i).toNat):=by
   intro b hb
   obtain ⟨j,_,rfl⟩:=List.mem_map.mp hb
   have:=hM j
   omega
  refine Ok.bind (Ok.is (HB (Ys _ (by decide) hbn) hb2)) ?_
  rintro _ rfl
  have e:=kw1 (x:=i) (by omega) (by omega)
  refine ih _ _ ⟨by omega,by omega,?_⟩ (by omega)
  rw [e,tS h1,yD,Yi]; rfl
 ·have d:=df d
  rw [h3,show i.toNat=M.length by omega,ue]
theorem MB (p0 p1 p2 p3 p4 p5 p6 p7 p8 p9:Int) {J:List Int} {S:List (List Int)} (Q:List (List (List Int))) (hf:Fit p0 p1 p2 p3 p4 p5 p6 p7 p8 p9 S) (hj:Jn p0 p1 p2 p3 p4 p5 p6 p7 p8 p9 J) {s:Int} (h:z8 5000 p0 p1 p2 p3 p4 p5 p6 p7 p8 p9 J S Q=some s):s=((crc 15 (jS (bns (j4 p1 p2 p3 p4 p5 p6 p7++(kX p6 J++j6 S)))):Nat):Int):=by
 have hm:=hf.1
 have h2:p2=1\/p2=2:=hm.1.2.2.2.1
 have h3:p3=4\/p3=8:=hm.1.2.2.2.2.1
 have h6:p6=0\/(p6=1/\p2=2):=hm.1.2.2.2.2.2.2.2.1
 have w1:wid (j4 p1 p2 p3 p4 p5 p6 p7)=16:=rfl
 have w2:=W6 p6 J (by omega)
 rw [hj.1] at w2
 have w3:=ZS (C:=p2) (N:=p3) (S:=S) ⟨hf.2.1,fun c a b=>(hf.2.2 c a b).1⟩ (by omega)
 have hws:wid (j4 p1 p2 p3 p4 p5 p6 p7++(kX p6 J++j6 S))<=8*512:=by
  rw [jr,jr,w1]
  have a1:p6*p3<=8:=by rcases h6 with h | ⟨h,_⟩<;>rw [h]<;>omega
  have a2:4*p3*p2<=64:=by rcases h2 with h | h<;>rw [h]<;>omega
  omega
 have key:Ok (fun s=>s=((crc 15 (jS (bns (j4 p1 p2 p3 p4 p5 p6 p7++(kX p6 J++j6 S)))):Nat):Int)) (z8 5000 p0 p1 p2 p3 p4 p5 p6 p7 p8 p9 J S Q):=by
  refine Ok.bind (Ok.is (UA (by decide) (by decide))) ?_
  rintro _ rfl
  dsimp only
  rw [show Int.toNat 512=512 from rfl,VP]
  refine Ok.bind (Ok.is (UH p0 p1 p2 p3 p4 p5 p6 p7 p8 p9 hm)) ?_
  rintro _ rfl
  refine Ok.bind (Ok.is (Xm (A:=[]) (n:=512) (by show 6<=1000; omega) (by decide) (Zj p0 p1 p2 p3 p4 p5 p6 p7 p8 p9 hm) (by show 16<=8*512; omega))) ?_
  rintro _ rfl
  refine Ok.bind (JL p0 p1 p2 p3 p4 p5 p6 p7 p8 p9 Q hf hj.1) ?_
  rintro _ ⟨rfl,hl⟩
  refine Ok.bind (Ok.is (Xm (A:=j4 p1 p2 p3 p4 p5 p6 p7) (n:=512) (by omega) (by decide) (Zf p0 p1 p2 p3 p4 p5 p6 p7 p8 p9 hf hj) hws)) ?_
  rintro _ rfl
  refine Ok.bind (Q:=fun r=>r=pk 512 (bns (j4 p1 p2 p3 p4 p5 p6 p7++(kX p6 J++j6 S)))) (Ok.bind (ZP (by rw [xy]; omega) (by rw [xy]; omega)) (fun r hr=>Ok.some hr)) ?_
  rintro _ rfl
  have ek:wa .i64 (((wid (j4 p1 p2 p3 p4 p5 p6 p7):Nat):Int)+((wid (kX p6 J++j6 S):Nat):Int))=(((bns (j4 p1 p2 p3 p4 p5 p6 p7++(kX p6 J++j6 S))).length:Nat):Int):=by
   show _=((wid (j4 p1 p2 p3 p4 p5 p6 p7++(kX p6 J++j6 S)):Nat):Int)
   have hsum:=jr (j4 p1 p2 p3 p4 p5 p6 p7) (kX p6 J++j6 S)
   rw [zH (by omega) (by omega),hsum]; omega
  dsimp only
  rw [ek]
  generalize hM:bns (j4 p1 p2 p3 p4 p5 p6 p7++(kX p6 J++j6 S))=M at *
  have hMl:M.length<=8*512:=by rw [<-hM]; exact hws
  have hMb:Bit M:=by rw [<-hM]; exact yl _
  refine Ok.bind (Q:=fun r=>r.1=((crc 15 (jS M):Nat):Int)) ?_ ?_
  ·refine Ok.bind (Ok.is (show vg 5000 8=some (8,15,29,0) from rfl)) ?_
   rintro _ rfl
   have e:wa .i64 (8*((pk 512 M).length:Int))=4096:=by rw [xy]; rfl
   refine Ok.ite (fun c=>?_) (fun _=>Ok.bind (u7 hMb (by decide) hMl) (fun r hr=>Ok.some hr))
   have c:(bif (bif ((0:Int) != 0) then true else decide ((M.length:Int)<0)) then true else decide ((M.length:Int)>wa .i64 (8*((pk 512 M).length:Int))))=true:=c
   rw [e,decide_eq_false (by omega),decide_eq_false (by omega)] at c
   cases c
  ·rintro ⟨y,e⟩ hy
   have hy:y=((crc 15 (jS M):Nat):Int):=hy
   have hr:=Ys (jS M) (s:=15) (by decide) (ZD hMb)
   exact Ok.some (by rw [hy,zH (by omega) (by omega)])
 obtain ⟨_,h',rfl⟩:=key
 rw [h] at h'
 injection h'
theorem V0 (p0 p1 p2 p3 p4 p5 p6 p7 p8 p9:Int) {J:List Int} (J0:List Int) {S:List (List Int)} (Q:List (List (List Int))) (hf:Fit p0 p1 p2 p3 p4 p5 p6 p7 p8 p9 S):Ok (fun r=>r=J++bns (j6 S)) (wm.l4 5000 p0 p1 p2 p3 p4 p5 p6 p7 p8 p9 J0 S Q 5000 0 J)\/100<J.length:=by
 by_cases hJ:100<J.length
 ·exact .inr hJ
 refine .inl ?_
 have h2:=(fit hf).2.1
 have h3:=(fit hf).2.2.1
 have hS:=hf.2.1
 unfold wm.l4
 refine wu (fun c r=>0<=c/\c<=p2/\(r.length:Int)<=100+32*c/\r=J++bns ((List.range c.toNat).flatMap fun c:Nat=>tg (row S c) 4)) (fun c _=>(p2-c).toNat) _ ?_ 5000 _ _ ⟨by omega,by omega,by omega,by simp [bns]⟩ (by omega)
 rintro next c r ⟨g1,g2,g3,g4⟩ ih
 refine Ok.ite (fun d=>?_) (fun d=>Ok.some ?_)
 ·have d:=dt d
  have hr:=hf.2.2 c g1 d
  have hrl:=hr.1
  refine Ok.bind (Q:=fun x=>(x.length:Int)<=100+32*c+4*p3/\x=r++bns (tg (row S c) 4)) ?_ ?_
  ·unfold wm.l5
   refine wu (fun b x=>0<=b/\b<=p3/\(x.length:Int)<=100+32*c+4*b/\x=r++bns ((List.range b.toNat).map fun q:Nat=>(at' (row S c) q,(4:Int)))) (fun b _=>(p3-b).toNat) _ ?_ 5000 _ _ ⟨by omega,by omega,by omega,by simp [bns]⟩ (by omega)
   rintro next2 b x ⟨f1,f2,f3,f4⟩ ih2
   refine Ok.ite (fun d2=>?_) (fun d2=>Ok.some ⟨by omega,?_⟩)
   ·have d2:=dt d2
    have hv:=hr.2 b f1 d2
    refine Ok.gd ⟨g1,by omega,f1,by show b<((row S c).length:Int); omega⟩ (Ok.bind (yF (v:=at' (row S c) b) hv.1 (by decide)) ?_)
    rintro _ rfl
    have e:=kw1 (x:=b) (by omega) (by omega)
    refine Ok.gd (by rw [kO]; show ((x.length:Int)+4)*8<=_; omega) ?_
    refine ih2 _ _ ⟨by omega,by omega,by rw [List.length_append,kO]; show ((x.length+4:Nat):Int)<=_; omega,?_⟩ (by omega)
    rw [e,tS f1,yD,jj,vo,<-List.append_assoc,<-f4]; rfl
   ·have d2:=df d2
    rw [f4,show b.toNat=(row S c).length by omega]; rfl
  ·rintro x ⟨hx,rfl⟩
   have e:=kw1 (x:=c) (by omega) (by omega)
   refine ih _ _ ⟨by omega,by omega,by omega,?_⟩ (by omega)
   rw [e,tS g1,xW,jj,<-List.append_assoc,<-g4,show ((c.toNat:Nat):Int)=c by omega]
 ·have d:=df d
  rw [g4,show c.toNat=S.length by omega]; rfl
theorem Vw (p0 p1 p2 p3 p4 p5 p6 p7 p8 p9:Int) {J:List Int} {S:List (List Int)} {Q:List (List (List Int))} {C B:Nat} {z:Int->Int} (h:Shr p0 p1 p2 p3 p4 p5 p6 p7 p8 p9 S C B z) (hv:PV p0 p1 p2 p3 p4 p5 p6 p7 p8 p9 J S Q (rw_ C B z)) (A:List Int) (hA:A.length<=200):Ok (fun r=>r=A++bns (y5 (rw_ C B z) Q)) (wm.l1 5000 (tabv (B*C) z) p0 p1 p2 p3 p4 p5 p6 p7 p8 p9 J S Q 5000 0 A):=by
 have hm:=h.hf.1
 have h2:p2=1\/p2=2:=hm.1.2.2.2.1
 have h3:p3=4\/p3=8:=hm.1.2.2.2.2.1
 have h4:p4=4\/p4=8\/p4=12\/p4=16:=hm.1.2.2.2.2.2.1
 have hC:=h.hC
 have hB:=h.hB
 have hq:=hv.2.2.1
 have hQl:=hq.1
 have htl:=jJ (B*C) z
 unfold wm.l1
 refine wu (fun i r=>0<=i/\i<=p4/\(r.length:Int)<=200+512*i/\r=A++bns ((List.range i.toNat).flatMap fun i:Nat=>bz (blk Q i) (rw_ C B z))) (fun i _=>(p4-i).toNat) _ ?_ 5000 _ _ ⟨by omega,by omega,by omega,by simp [bns]⟩ (by omega)
 rintro next i r ⟨g1,g2,g3,g4⟩ ih
 refine Ok.ite (fun d=>?_) (fun d=>Ok.some ?_)
 ·have d:=dt d
  have hb:=hq.2 i g1 d
  have hbl:=hb.1
  refine Ok.bind (Q:=fun x=>(x.length:Int)<=200+512*i+256*p2/\x=r++bns (bz (blk Q i) (rw_ C B z))) ?_ ?_
  ·unfold wm.l2
   refine wu (fun c x=>0<=c/\c<=p2/\(x.length:Int)<=200+512*i+256*c/\x=r++bns ((List.range c.toNat).flatMap fun c:Nat=>rz (row (blk Q i) c) (row (rw_ C B z) c))) (fun c _=>(p2-c).toNat) _ ?_ 5000 _ _ ⟨by omega,by omega,by omega,by simp [bns]⟩ (by omega)
   rintro next2 c x ⟨f1,f2,f3,f4⟩ ih2
   refine Ok.ite (fun d2=>?_) (fun d2=>Ok.some ⟨by omega,?_⟩)
   ·have d2:=dt d2
    have hr:=hb.2 c f1 d2
    refine Ok.bind (Q:=fun y=>(y.length:Int)<=200+512*i+256*c+32*p3/\y=x++bns (rz (row (blk Q i) c) (row (rw_ C B z) c))) ?_ ?_
    ·unfold wm.l3
     refine wu (fun b y=>0<=b/\b<=p3/\(y.length:Int)<=200+512*i+256*c+32*b/\y=x++bns ((List.range b.toNat).map fun b:Nat=>(at' (row (blk Q i) c) b,at' (row (rw_ C B z) c) b))) (fun b _=>(p3-b).toNat) _ ?_ 5000 _ _ ⟨by omega,by omega,by omega,by simp [bns]⟩ (by omega)
     rintro next3 b y ⟨e1,e2,e3,e4⟩ ih3
     refine Ok.ite (fun d3=>?_) (fun d3=>Ok.some ⟨by omega,?_⟩)
     ·have d3:=dt d3
      have hf2:=K5 (hv.2.2.2 i g1 d c f1 d2 b e1 d3)
      have hbc:0<=b*p2+c/\b*p2+c<((B*C:Nat):Int)/\b*p2<=20/\0<=b*p2:=by
       rcases h2 with h2 | h2
       ·have:C=1:=by omega
        subst this; rw [h2]; omega
       ·have:C=2:=by omega
        subst this; rw [h2]; omega
      have k1:wa .i64 (b*p2)=b*p2:=zH (by omega) (by omega)
      have k2:wa .i64 (b*p2+c)=b*p2+c:=zH (by omega) (by omega)
      have hz:Kd.nth (.int .i64) (tabv (B*C) z) (Int.toNat (b*p2+c))=at' (row (rw_ C B z) c) b:=by
       have e:=vN (C:=C) (B:=B) (z:=z) (c:=c.toNat) (b:=b.toNat) (by omega) (by omega)
       rw [show ((c.toNat:Nat):Int)=c by omega,show ((b.toNat:Nat):Int)=b by omega] at e
       rw [e]
       have e2:((b.toNat*C+c.toNat:Nat):Int)=b*p2+c:=by
        rcases h2 with h2 | h2
        ·have:C=1:=by omega
         subst this; rw [h2]; omega
        ·have:C=2:=by omega
         subst this; rw [h2]; omega
       rw [e2]
       exact yT (B*C) z _ hbc.1 hbc.2.1
      refine Ok.gd ⟨g1,by omega⟩ (Ok.gd ⟨f1,by show c<((blk Q i).length:Int); omega⟩ (Ok.gd ⟨e1,by show b<((row (blk Q i) c).length:Int); omega⟩ ?_))
      dsimp only
      rw [k1,k2,hz]
      have hw:=hf2.2.1
      have hw:at' (row (rw_ C B z) c) b<=32:=hw
      have hw0:0<=at' (row (rw_ C B z) c) b:=hf2.1
      refine Ok.gd ⟨hbc.1,by rw [htl]; exact hbc.2.1⟩ (Ok.bind (yF (v:=at' (row (blk Q i) c) b) hf2.2.2.1 ⟨hw0,hw⟩) ?_)
      rintro _ rfl
      have e:=kw1 (x:=b) (by omega) (by omega)
      refine Ok.gd (by rw [kO]; omega) ?_
      refine ih3 _ _ ⟨by omega,by omega,by rw [List.length_append,kO]; omega,?_⟩ (by omega)
      rw [e,tS e1,yD,jj,vo,<-List.append_assoc,<-e4]; rfl
     ·have d3:=df d3
      rw [e4,show b.toNat=(row (blk Q i) c).length by omega]; rfl
    ·rintro y ⟨hy,rfl⟩
     have e:=kw1 (x:=c) (by omega) (by omega)
     refine ih2 _ _ ⟨by omega,by omega,by omega,?_⟩ (by omega)
     rw [e,tS f1,xW,jj,<-List.append_assoc,<-f4,show ((c.toNat:Nat):Int)=c by omega]
   ·have d2:=df d2
    rw [f4,show c.toNat=(blk Q i).length by omega]; rfl
  ·rintro x ⟨hx,rfl⟩
   have e:=kw1 (x:=i) (by omega) (by omega)
   refine ih _ _ ⟨by omega,by omega,by omega,?_⟩ (by omega)
   rw [e,tS g1,xW,jj,<-List.append_assoc,<-g4,show ((i.toNat:Nat):Int)=i by omega]
 ·have d:=df d
  rw [g4,show i.toNat=Q.length by omega]; rfl
end Go.Fo
