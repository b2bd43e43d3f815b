/- The document's frame is the program's: whole. -/
import Derived.Test.YtiihmaaobmpabaaGreatSfUh
namespace Go.Fo
set_option maxRecDepth 6000
theorem ui (p0 p1 p2 p3 p4 p5 p6 p7 p8 p9:Int) {J:List Int} {S:List (List Int)} {Q:List (List (List Int))} {C B:Nat} {z:Int->Int} (h:Shr p0 p1 p2 p3 p4 p5 p6 p7 p8 p9 S C B z) (hsr:wj 5000 p0 p1 p2 p3 p4 p5 p6 p7 p8 p9 S=some (tabv (B*C) z)) (hv:PV p0 p1 p2 p3 p4 p5 p6 p7 p8 p9 J S Q (rw_ C B z)):∃ b,qz 5000 p0 p1 p2 p3 p4 p5 p6 p7 p8 p9 J S Q=some (b,0)/\(b.length:Int)=vn p2 p3 p4 p6 p7/\(∀ x∈b,0<=x/\x<256)/\Ok (fun r=>r=bstr b) (wm 5000 p0 p1 p2 p3 p4 p5 p6 p7 p8 p9 J S Q):=by
 have hf:=h.hf
 have hm:=hf.1
 have h2:p2=1\/p2=2:=hm.1.2.2.2.1
 have h3:p3=4\/p3=8:=hm.1.2.2.2.2.1
 have h6:p6=0\/(p6=1/\p2=2):=hm.1.2.2.2.2.2.2.2.1
 have hz:=Ks p0 p1 p2 p3 p4 p5 p6 p7 p8 p9 hm
 obtain ⟨s,hs,hsum,hP⟩:=HE p0 p1 p2 p3 p4 p5 p6 p7 p8 p9 h hv
 have hsc:=MB p0 p1 p2 p3 p4 p5 p6 p7 p8 p9 Q hf hv.1 hsum
 have hW:=Yq p0 p1 p2 p3 p4 p5 p6 p7 p8 p9 h hv s
 have w2:=W6 p6 J (by omega)
 rw [hv.1.1] at w2
 have w3:=ZS (C:=p2) (N:=p3) (S:=S) ⟨hf.2.1,fun c a b=>(hf.2.2 c a b).1⟩ (by omega)
 have a1:p6*p3<=8:=by rcases h6 with h | ⟨h,_⟩<;>rw [h]<;>omega
 have a2:4*p3*p2<=64:=by rcases h2 with h | h<;>rw [h]<;>omega
 have e:bns (frL p1 p2 p3 p4 p5 p6 p7 s J S Q (rw_ C B z))=bn 156 8++bns (j4 p1 p2 p3 p4 p5 p6 p7)++bn s 8++(bns (kX p6 J)++bns (j6 S))++bns (y5 (rw_ C B z) Q):=by
  unfold frL JA
  rw [jj,jj,jj,jj,vo,vo,jj]; rfl
 rw [jj,jj (kX p6 J)] at hsc
 have hHl:(bns (j4 p1 p2 p3 p4 p5 p6 p7)).length=16:=rfl
 have hWl:(bns (frL p1 p2 p3 p4 p5 p6 p7 s J S Q (rw_ C B z))).length<=8*(vn p2 p3 p4 p6 p7).toNat:=hW
 refine ⟨_,hP,by rw [xy]; omega,fun x hx=>?_,?_⟩
 ·obtain ⟨i,_,rfl⟩:=List.mem_map.mp hx
  exact Je (yl _) i
 have hjl:((bns (kX p6 J)).length:Int)=p6*p3:=w2
 have hsl:((bns (j6 S)).length:Int)=4*p3*p2:=w3
 have bH:Bit (bns (j4 p1 p2 p3 p4 p5 p6 p7)):=yl _
 have bX:Bit (bns (kX p6 J)++bns (j6 S)):=(yl _).app (yl _)
 have hXl:((bns (kX p6 J)++bns (j6 S)).length:Int)=p6*p3+4*p3*p2:=by rw [List.length_append]; omega
 refine Ok.bind (Q:=fun x=>x=bns (kX p6 J)) ?_ ?_
 ·have hJ:=hv.1
  refine Ok.ite (fun c=>Ok.gd (by have:=hJ.1; omega) (Ok.some ?_)) (fun c=>Ok.some ?_)
  ·have c:p6=1:=by simpa using c
   unfold kX
   rw [if_pos c,Gl (fun i hi=>by
    rcases hJ.2 i (by omega) (by have:=hJ.1; omega) with x | x
    ·exact .inl x
    ·exact .inr x.2)]
  ·have c:¬ p6=1:=by simpa using c
   unfold kX
   rw [if_neg c]; rfl
 rintro _ rfl
 refine Ok.bind (by rcases V0 p0 p1 p2 p3 p4 p5 p6 p7 p8 p9 (J:=bns (kX p6 J)) J Q hf with h | h; exact h; omega) ?_
 rintro _ rfl
 refine Ok.bind (Jp p0 p1 p2 p3 p4 p5 p6 p7 p8 p9 hm) ?_
 rintro _ rfl
 generalize hH:bns (j4 p1 p2 p3 p4 p5 p6 p7)=H at *
 generalize hX:bns (kX p6 J)++bns (j6 S)=X at *
 have hHX:(H++X).length<=100:=by rw [List.length_append]; omega
 refine Ok.gd (by omega) (Ok.bind (Q0 (bH.app bX) (by omega)) ?_)
 rintro _ rfl
 refine Ok.bind (ga (bH.app bX) (by omega)) ?_
 rintro _ rfl
 rw [<-hsc]
 refine Ok.bind (yF (v:=156) (by decide) (by decide)) ?_
 rintro _ rfl
 refine Ok.bind (Jp p0 p1 p2 p3 p4 p5 p6 p7 p8 p9 hm) ?_
 rintro _ rfl
 rw [hH]
 have l1:(bn 156 (Int.toNat 8)++H).length=24:=by rw [List.length_append,kO,hHl]; rfl
 have ks:wa .i64 s=s:=zH (by omega) (by omega)
 refine Ok.gd (by rw [kO]; show ((8:Int)+_)*8<=_; omega) ?_
 dsimp only
 rw [ks]
 refine Ok.bind (yF hs.1 (by decide)) ?_
 rintro _ rfl
 have l2:(bn 156 (Int.toNat 8)++H++bn s (Int.toNat 8)).length=32:=by rw [List.length_append,l1,kO]; rfl
 refine Ok.gd (by rw [l1,kO]; decide) (Ok.gd (by rw [l2]; omega) (Ok.bind (Ok.is hsr) ?_))
 rintro _ rfl
 have l3:(bn 156 (Int.toNat 8)++H++bn s (Int.toNat 8)++X).length<=200:=by rw [List.length_append,l2]; omega
 refine Ok.bind (Vw p0 p1 p2 p3 p4 p5 p6 p7 p8 p9 h hv _ l3) ?_
 rintro _ rfl
 have e':bn 156 (Int.toNat 8)++H++bn s (Int.toNat 8)++X++bns (y5 (rw_ C B z) Q)=bns (frL p1 p2 p3 p4 p5 p6 p7 s J S Q (rw_ C B z)):=e.symm
 rw [e']
 have bL:Bit (bns (frL p1 p2 p3 p4 p5 p6 p7 s J S Q (rw_ C B z))):=yl _
 generalize bns (frL p1 p2 p3 p4 p5 p6 p7 s J S Q (rw_ C B z))=L at *
 generalize hn:(vn p2 p3 p4 p6 p7).toNat=n at *
 refine Ok.bind (Q:=fun r=>r=L++List.replicate (8*n-L.length) 0) ?_ ?_
 ·unfold wm.l0
  refine ko (fun r=>∃ k,r=L++List.replicate k 0/\L.length+k<=8*n) (fun r=>8*n-r.length) _ ?_ 5000 _ ⟨0,by rw [List.replicate_zero,List.append_nil],by omega⟩ (by omega)
  rintro next r ⟨k,rfl,g⟩ ih
  have hl:(L++List.replicate k (0:Int)).length=L.length+k:=by simp
  refine Ok.bind (Vy p0 p1 p2 p3 p4 p5 p6 p7 p8 p9 hm.1) ?_
  rintro _ rfl
  have kp:wa .i64 (8*vn p2 p3 p4 p6 p7)=((8*n:Nat):Int):=by rw [zH (by omega) (by omega)]; omega
  dsimp only
  rw [kp]
  refine Ok.ite (fun d=>?_) (fun d=>Ok.some ?_)
  ·have d:=dt d
   rw [hl] at d
   refine Ok.gd (by rw [hl]; show (((L.length+k:Nat):Int)+1)*8<=_; omega) (ih _ ⟨k+1,by rw [List.replicate_succ',List.append_assoc],by omega⟩ (by rw [List.length_append,hl]; show _-(L.length+k+1)<_; omega))
  ·have d:=df d
   rw [hl] at d
   rw [show 8*n-L.length=k by omega]
 ·rintro _ rfl
  have hl:(L++List.replicate (8*n-L.length) (0:Int)).length=8*n:=by simp; omega
  refine Ok.bind (Q0 (bL.app (QO _)) (by rw [hl]; omega)) ?_
  rintro _ rfl
  refine Ok.some ?_
  rw [hl,show (8*n+7)/8=n by omega,ZQ]
end Go.Fo
