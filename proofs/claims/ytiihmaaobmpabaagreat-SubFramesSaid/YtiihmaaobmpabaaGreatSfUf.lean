/- Bits and bytes,the document's. -/
import Derived.Test.YtiihmaaobmpabaaGreatSfUe
namespace Go.Fo
set_option maxRecDepth 6000
theorem HJ (x:Int) {s:Int} (h1:s<=60):kshr .i64 x s=x/2^s.toNat:=by
 unfold kshr
 rw [show min (Int.toNat s) IntKind.i64.bits=s.toNat from Nat.min_eq_left (by show s.toNat<=64; omega)]
 exact Int.fdiv_eq_ediv_of_nonneg _ (Int.pow_nonneg (by decide))
theorem He {x:Int} (h0:0<=x) (h1:x<1000):wa .u64 x=x:=by
 unfold wa IntKind.wrap; simp [IntKind.bits,IntKind.signed]; omega
theorem yF {v w:Int} (hv:0<=v) (hw:0<=w/\w<=32):Ok (fun r=>r=bn v w.toNat) (wT 5000 v w):=by
 have k0:wa .i64 (w-1)=w-1:=zH (by omega) (by omega)
 dsimp only [wT]
 rw [k0]
 refine Ok.bind (Q:=fun r=>r=bn v w.toNat) ?_ (fun r hr=>Ok.some hr)
 unfold wT.l0
 refine wu (fun k r=>-1<=k/\k<=w-1/\r=(bn v w.toNat).take (w-1-k).toNat) (fun k _=>(k+1).toNat) _ ?_ 5000 _ _ ⟨by omega,by omega,by rw [show (w-1-(w-1)).toNat=0 by omega]; rfl⟩ (by omega)
 rintro next k r ⟨g1,g2,g3⟩ ih
 refine Ok.ite (fun d=>?_) (fun d=>Ok.some ?_)
 ·have d:k>=0:=dt d
  have eu:=He (x:=k) d (by omega)
  have ek:wa .i64 (k-1)=k-1:=zH (by omega) (by omega)
  have hq:0<=v/2^k.toNat:=Int.ediv_nonneg hv (Int.pow_nonneg (by decide))
  have hlen:(r.length:Int)<=100:=by rw [g3,List.length_take,kO]; omega
  dsimp only
  rw [eu,ek,HJ v (by omega),Int.tmod_eq_emod_of_nonneg hq]
  refine Ok.gd ⟨d,by show ((r.length:Int)+1)*8<=_; omega⟩ ?_
  refine ih _ _ ⟨by omega,by omega,?_⟩ (by omega)
  have hb:=YH (v:=v) (k:=w.toNat) (i:=(w-1-k).toNat) (by omega)
  rw [show (w-1-(k-1)).toNat=(w-1-k).toNat+1 by omega,hb,<-g3,show w.toNat-1-(w-1-k).toNat=k.toNat by omega]
 ·have d:¬ k>=0:=df d
  rw [g3,List.take_of_length_le (by rw [kO]; omega)]
theorem bn1 {x:Int} (h:x=0\/x=1):bn x 1=[x]:=by rcases h with rfl | rfl<;>rfl
theorem Jp (p0 p1 p2 p3 p4 p5 p6 p7 p8 p9:Int) (hm:yd p0 p1 p2 p3 p4 p5 p6 p7 p8 p9):Ok (fun r=>r=bns (j4 p1 p2 p3 p4 p5 p6 p7)) (qT 5000 p0 p1 p2 p3 p4 p5 p6 p7 p8 p9):=by
 obtain ⟨⟨_,g1,g1',h2,h3,h4,h5,h6,g7,g7',_⟩,_⟩:=hm
 have k4:wa .i64 (wa .i64 (Int.tdiv p4 4)-1)=p4/4-1:=by rcases h4 with rfl | rfl | rfl | rfl<;>decide
 refine Ok.bind (yF g1 (by decide)) ?_
 rintro _ rfl
 dsimp only
 rw [k4]
 refine Ok.bind (yF (by omega) (by decide)) ?_
 rintro _ rfl
 refine Ok.gd (by rw [kO,kO]; decide) (Ok.bind (Q:=fun r=>r=bn p1 2++bn (p4/4-1) 2++bn (if p2=2 then 2+p6 else 0) 2) ?_ ?_)
 ·have hl:(bn p1 (Int.toNat 2)++bn (p4/4-1) (Int.toNat 2)).length=4:=by rw [List.length_append,kO,kO]; rfl
  refine Ok.ite (fun c=>Ok.gd (by rw [hl]; decide) (Ok.some ?_)) (fun c=>Ok.ite (fun c2=>Ok.gd (by rw [hl]; decide) (Ok.some ?_)) (fun c2=>Ok.gd (by rw [hl]; decide) (Ok.some ?_)))
  ·have c:p2=1:=by simpa using c
   rw [if_neg (by omega)]; rfl
  ·have c:¬ p2=1:=by simpa using c
   have c2:p6=0:=by simpa using c2
   rw [if_pos (by omega),c2]; rfl
  ·have c:¬ p2=1:=by simpa using c
   have c2:¬ p6=0:=by simpa using c2
   rw [if_pos (by omega),show p6=1 by omega]; rfl
 rintro _ rfl
 have hl:(bn p1 2++bn (p4/4-1) 2++bn (if p2=2 then 2+p6 else 0) 2).length=6:=by rw [List.length_append,List.length_append,kO,kO,kO]
 have hl2:(bn p1 2++bn (p4/4-1) 2++bn (if p2=2 then 2+p6 else 0) 2++[p5]).length=7:=by rw [List.length_append,hl]; rfl
 refine Ok.gd (by rw [hl]; show ((6:Int)+1)*8<=_; decide) (Ok.bind (Q:=fun r=>r=bn p1 2++bn (p4/4-1) 2++bn (if p2=2 then 2+p6 else 0) 2++[p5]++bn (p3/4-1) 1) ?_ ?_)
 ·refine Ok.ite (fun c=>Ok.gd (by rw [hl2]; decide) (Ok.some ?_)) (fun c=>Ok.gd (by rw [hl2]; decide) (Ok.some ?_))
  ·have c:p3=8:=by simpa using c
   rw [c]; rfl
  ·have c:¬ p3=8:=by simpa using c
   rw [show p3=4 by omega]; rfl
 rintro _ rfl
 refine Ok.bind (yF (v:=p7) (by omega) (by decide)) ?_
 rintro _ rfl
 refine Ok.gd (by rw [List.length_append,hl2,kO,kO]; decide) (Ok.some ?_)
 rw [<-bn1 (x:=p5) (by omega)]
 unfold j4 bns
 simp only [List.flatMap_cons,List.flatMap_nil,List.append_nil,List.append_assoc]
 rfl
theorem Gl {J:List Int} (h:∀ i:Nat,i<J.length->at' J i=0\/at' J i=1):bns (tg J 1)=J:=by
 have key:∀ n,n<=J.length->bns ((List.range n).map fun i:Nat=>(at' J i,(1:Int)))=J.take n:=by
  intro n
  induction n with
  | zero=>intro _; rfl
  | succ n ih =>
   intro hn
   rw [yD,jj,ih (by omega),vo,List.take_add_one,List.getElem?_eq_getElem (by omega)]
   show J.take n++bn (at' J n) 1=J.take n++[J[n]]
   rw [bn1 (h n (by omega))]
   congr 2
   show J.getD n 0=_
   rw [List.getD_eq_getElem?_getD,List.getElem?_eq_getElem (by omega)]; rfl
 have:=key J.length (Nat.le_refl _)
 rw [List.take_length] at this
 exact this
theorem GS {L:List Int} (hL:Bit L) (h8:L.length%8=0) (hn:L.length<=4900):Ok (fun r=>r=pk (L.length/8) L) (wY 5000 0 0 L):=by
 refine Ok.bind (Q:=fun r=>r=pk (L.length/8) L) ?_ (fun r hr=>Ok.some hr)
 unfold wY.l0
 refine wu (fun x r=>∃ j:Nat,x=((8*j:Nat):Int)/\8*j<=L.length/\r=pk j L) (fun x _=>((L.length:Int)-x).toNat) _ ?_ 5000 _ _ ⟨0,rfl,by omega,rfl⟩ (by show ((L.length:Int)-0).toNat<5000; omega)
 rintro next x r ⟨j,rfl,g2,rfl⟩ ih
 refine Ok.ite (fun d=>?_) (fun d=>Ok.some ?_)
 ·have d:=dt d
  refine Ok.bind (Q:=fun v=>v=pby L j) ?_ ?_
  ·unfold wY.l1
   refine wu (fun v i=>0<=i/\i<=8/\0<=v/\v<2^i.toNat/\v=num ((List.range i.toNat).map fun t=>b1 L (8*j+t))) (fun _ i=>(8-i).toNat) _ ?_ 5000 _ _ ⟨by omega,by omega,by omega,by decide,rfl⟩ (by omega)
   rintro next2 v i ⟨f1,f2,f3,f4,f5⟩ ih2
   refine Ok.ite (fun d2=>?_) (fun d2=>Ok.some ?_)
   ·have d2:=dt d2
    have hp:=Ki (s:=i.toNat) (t:=8) (by omega)
    have e8:(2:Int)^8=256:=rfl
    have hb:=hL.bd (8*j+i.toNat)
    have k1:wa .i64 (((8*j:Nat):Int)+i)=((8*j+i.toNat:Nat):Int):=by rw [zH (by omega) (by omega)]; omega
    have k2:wa .i64 (2*v)=2*v:=zH (by omega) (by omega)
    have hat:Kd.nth (.int .i64) L (Int.toNat ((8*j+i.toNat:Nat):Int))=b1 L (8*j+i.toNat):=rfl
    have k3:wa .i64 (2*v+b1 L (8*j+i.toNat))=2*v+b1 L (8*j+i.toNat):=zH (by omega) (by omega)
    have e:=kw1 (x:=i) (by omega) (by omega)
    dsimp only
    rw [k1,k2,hat,k3,e]
    refine Ok.gd ⟨by omega,by omega,by omega⟩ (ih2 _ _ ⟨by omega,by omega,by omega,?_,?_⟩ (by omega))
    ·rw [tS f1,Int.pow_succ]; omega
    ·rw [tS f1,yD,gc,<-f5]
   ·have d2:=df d2
    rw [f5,show i.toNat=8 by omega]
    show num [b1 L (8*j+0),b1 L (8*j+1),b1 L (8*j+2),b1 L (8*j+3),b1 L (8*j+4),b1 L (8*j+5),b1 L (8*j+6),b1 L (8*j+7)]=_
    unfold num pby
    simp only [List.foldl_cons,List.foldl_nil,Nat.add_zero]
    omega
  ·rintro _ rfl
   have hr:=Je hL j
   have ku:wa .u8 (pby L j)=pby L j:=by unfold wa IntKind.wrap; simp [IntKind.bits,IntKind.signed]; omega
   have ek:wa .i64 (((8*j:Nat):Int)+8)=((8*(j+1):Nat):Int):=by rw [zH (by omega) (by omega)]; omega
   dsimp only
   rw [ku,ek]
   refine Ok.gd (by rw [xy]; show ((j:Int)+1)*1<=_; omega) (ih _ _ ⟨j+1,rfl,by omega,?_⟩ (by omega))
   unfold pk; rw [yD]
 ·have d:=df d
  rw [show L.length/8=j by omega]
theorem ZQ (n:Nat) (L:List Int):∀ k,pk n (L++List.replicate k 0)=pk n L
 | 0=>by rw [List.replicate_zero,List.append_nil]
 | k+1=>by rw [List.replicate_succ',<-List.append_assoc,Yw]; exact ZQ n L k
theorem QO (k:Nat):Bit (List.replicate k 0):=fun i=>by
 unfold b1; rw [List.getD_eq_getElem?_getD,List.getElem?_replicate]; split<;>exact .inl rfl
theorem Q0 {L:List Int} (hL:Bit L) (hn:L.length<=4800):Ok (fun r=>r=pk ((L.length+7)/8) L) (zL 5000 L):=by
 refine Ok.gd (by show ((0:Int)+_)*8<=_; omega) (Ok.bind (Q:=fun r=>r=L++List.replicate (8*((L.length+7)/8)-L.length) 0) ?_ ?_)
 ·unfold zL.l0
  refine ko (fun r=>∃ k,r=L++List.replicate k 0/\L.length+k<=8*((L.length+7)/8)) (fun r=>8*((L.length+7)/8)-r.length) _ ?_ 5000 _ ⟨0,by rw [List.replicate_zero,List.append_nil]; rfl,by omega⟩ (by show 8*((L.length+7)/8)-([]++L).length<_; rw [List.nil_append]; omega)
  rintro next r ⟨k,rfl,g⟩ ih
  have hl:(L++List.replicate k (0:Int)).length=L.length+k:=by simp
  refine Ok.ite (fun d=>?_) (fun d=>Ok.some ?_)
  ·have d:Int.tmod ((L++List.replicate k (0:Int)).length:Int) 8≠0:=Qw d
   rw [Int.tmod_eq_emod_of_nonneg (by omega),hl] at d
   refine Ok.gd (by rw [hl]; show (((L.length+k:Nat):Int)+1)*8<=_; omega) (ih _ ⟨k+1,by rw [List.replicate_succ',List.append_assoc],by omega⟩ (by rw [List.length_append,hl]; show _-(L.length+k+1)<_; omega))
  ·have d:Int.tmod ((L++List.replicate k (0:Int)).length:Int) 8=0:=Zi d
   rw [Int.tmod_eq_emod_of_nonneg (by omega),hl] at d
   rw [show 8*((L.length+7)/8)-L.length=k by omega]
 ·rintro _ rfl
  have hl:(L++List.replicate (8*((L.length+7)/8)-L.length) (0:Int)).length=8*((L.length+7)/8):=by simp; omega
  refine Ok.bind (GS (hL.app (QO _)) (by rw [hl]; omega) (by rw [hl]; omega)) ?_
  rintro _ rfl
  refine Ok.some ?_
  rw [hl,Nat.mul_div_cancel_left _ (by decide)]
  exact ZQ _ _ _
end Go.Fo
