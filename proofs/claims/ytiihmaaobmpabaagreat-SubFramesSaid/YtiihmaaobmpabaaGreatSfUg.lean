/- The document's check is the program's. -/
import Derived.Test.YtiihmaaobmpabaaGreatSfUf
import Derived.Test.YtiihmaaobmpabaaGreatSfTa
namespace Go.Fo
set_option maxRecDepth 6000
def val:List Nat->Nat
  | []=>0
  | b::w=>128*b+val w/2
theorem U5:∀ {w:List Nat},Bn w->val w<256
 | [],_=>by decide
 | b::w,h=>by
  have:=U5 (w:=w) (fun c hc=>h c (List.mem_cons_of_mem _ hc))
  have:=h b (List.mem_cons_self ..)
  show 128*b+val w/2<256; omega
theorem ul:∀ {w:List Nat},w.length<=8->2^(8-w.length)∣val w
 | [],_=>⟨0,rfl⟩
 | b::w,h=>by
  have hl:(b::w).length=w.length+1:=rfl
  rw [hl] at h
  obtain ⟨q,hq⟩:=ul (w:=w) (by omega)
  rw [hl]
  have e:8-w.length=(8-(w.length+1))+1:=by omega
  have p7:128=2^(8-(w.length+1))*2^w.length:=by rw [<-Nat.pow_add,show 8-(w.length+1)+w.length=7 by omega]
  refine ⟨2^w.length*b+q,?_⟩
  show 128*b+val w/2=_
  rw [hq,e,Nat.pow_succ,Nat.mul_add,<-Nat.mul_assoc,<-p7]
  congr 1
  rw [Nat.mul_assoc,Nat.mul_comm 2 q,<-Nat.mul_assoc,Nat.mul_div_cancel _ (by decide)]
theorem nxX:((List.range 256).all fun s=>(List.range 2).all fun b=>nx s b==nx (s ^^^ (128*b)) 0)=true:=by kernel_rfl
theorem nxU:((List.range 256).all fun y=>(List.range 128).all fun u=>nx (y ^^^ u) 0==nx y 0 ^^^ (2*u))=true:=by kernel_rfl
theorem mm:((List.range 2).all fun b=>(List.range 128).all fun u=>128*b+u==(128*b) ^^^ u)=true:=by kernel_rfl
theorem HW {s b u:Nat} (hs:s<256) (hb:b<2) (hu:u<128):nx (s ^^^ (128*b+u)) 0=nx s b ^^^ (2*u):=by
 have h1:=beq_iff_eq.mp (List.all_eq_true.mp (List.all_eq_true.mp nxX s (List.mem_range.mpr hs)) b (List.mem_range.mpr hb))
 have h2:=beq_iff_eq.mp (List.all_eq_true.mp (List.all_eq_true.mp mm b (List.mem_range.mpr hb)) u (List.mem_range.mpr hu))
 have hsx:s ^^^ (128*b)<2^8:=Nat.xor_lt_two_pow (by omega) (by omega)
 have h3:=beq_iff_eq.mp (List.all_eq_true.mp (List.all_eq_true.mp nxU (s ^^^ (128*b)) (List.mem_range.mpr hsx)) u (List.mem_range.mpr hu))
 rw [h2,<-Nat.xor_assoc,h3,h1]
def Tn:Nat->Nat->Nat
  | 0,x=>x
  | n+1,x=>Tn n (nx x 0)
theorem Uw:∀ (w:List Nat) {s:Nat},s<256->Bn w->w.length<=8->Tn w.length (s ^^^ val w)=crc s w
 | [],s,_,_,_=>by show s ^^^ 0=s; exact Nat.xor_zero s
 | b::w,s,hs,h,hn=>by
  have hl:(b::w).length=w.length+1:=rfl
  have hb:=h b (List.mem_cons_self ..)
  have hw:Bn w:=fun c hc=>h c (List.mem_cons_of_mem _ hc)
  have hr:=U5 hw
  have hd:2∣val w:=Nat.dvd_trans (Nat.pow_dvd_pow 2 (show 1<=8-w.length by omega)) (ul (by omega))
  show Tn w.length (nx (s ^^^ (128*b+val w/2)) 0)=crc (nx s b) w
  rw [HW hs hb (by omega),show 2*(val w/2)=val w by omega]
  exact Uw w (Ho hs hb).2 hw (by omega)
def jS (M:List Int):List Nat:=M.map Int.toNat
theorem ZD {M:List Int} (h:Bit M):Bn (jS M):=by
 intro b hb
 obtain ⟨x,hx,rfl⟩:=List.mem_map.mp hb
 obtain ⟨i,hi,rfl⟩:=List.mem_iff_getElem.mp hx
 have:=h i
 have e:b1 M i=M[i]:=by unfold b1; rw [List.getD_eq_getElem?_getD,List.getElem?_eq_getElem hi]; rfl
 rw [e] at this
 omega
theorem uC (L M:List Int):jS (L++M)=jS L++jS M:=List.map_append
theorem MT:((List.range 2).all fun a=>(List.range 2).all fun b=>(List.range 2).all fun c=>(List.range 2).all fun d=>(List.range 2).all fun e=>(List.range 2).all fun f=>(List.range 2).all fun g=>(List.range 2).all fun k=>val [a,b,c,d,e,f,g,k]==128*a+64*b+32*c+16*d+8*e+4*f+2*g+k)=true:=by kernel_rfl
theorem Mw {a b c d e f g k:Nat} (ha:a<2) (hb:b<2) (hc:c<2) (hd:d<2) (he:e<2) (hf:f<2) (hg:g<2) (hk:k<2):val [a,b,c,d,e,f,g,k]=128*a+64*b+32*c+16*d+8*e+4*f+2*g+k:=beq_iff_eq.mp (List.all_eq_true.mp (List.all_eq_true.mp (List.all_eq_true.mp (List.all_eq_true.mp (List.all_eq_true.mp (List.all_eq_true.mp (List.all_eq_true.mp (List.all_eq_true.mp (MT) a (List.mem_range.mpr ha)) b (List.mem_range.mpr hb)) c (List.mem_range.mpr hc)) d (List.mem_range.mpr hd)) e (List.mem_range.mpr he)) f (List.mem_range.mpr hf)) g (List.mem_range.mpr hg)) k (List.mem_range.mpr hk))
theorem g6:∀ w:List Nat,val (w++[0])=val w
 | []=>rfl
 | b::w=>by show 128*b+val (w++[0])/2=128*b+val w/2; rw [g6 w]
theorem Uk (w:List Nat):∀ k,val (w++List.replicate k 0)=val w
 | 0=>by rw [List.replicate_zero,List.append_nil]
 | k+1=>by rw [List.replicate_succ',<-List.append_assoc,g6]; exact Uk w k
theorem uB {M:List Int} {i:Nat} (h:i<(jS M).length):(jS M)[i]=(b1 M i).toNat:=by
 have h2:i<M.length:=by simpa [jS] using h
 simp only [jS,List.getElem_map]
 unfold b1
 rw [List.getD_eq_getElem?_getD,List.getElem?_eq_getElem h2]; rfl
theorem mi (l:List Int) (h:l.length<=8) (hb:Bit l):((val (jS l):Nat):Int)=128*b1 l 0+64*b1 l 1+32*b1 l 2+16*b1 l 3+8*b1 l 4+4*b1 l 5+2*b1 l 6+b1 l 7:=by
 have h0:=hb 0; have h1:=hb 1; have h2:=hb 2; have h3:=hb 3; have h4:=hb 4; have h5:=hb 5; have h6:=hb 6; have h7:=hb 7
 have e:jS l++List.replicate (8-l.length) 0=(List.range 8).map fun t=>(b1 l t).toNat:=by
  apply List.ext_getElem
  ·simp [jS]; omega
  ·intro i g1 g2
   rw [List.getElem_map,List.getElem_range,List.getElem_append]
   split
   ·rename_i q
    exact uB q
   ·rename_i q
    have q:l.length<=i:=by simpa [jS] using q
    rw [List.getElem_replicate,vj q]; rfl
 rw [<-Uk (jS l) (8-l.length),e]
 have v:=Mw (a:=(b1 l 0).toNat) (b:=(b1 l 1).toNat) (c:=(b1 l 2).toNat) (d:=(b1 l 3).toNat) (e:=(b1 l 4).toNat) (f:=(b1 l 5).toNat) (g:=(b1 l 6).toNat) (k:=(b1 l 7).toNat) (by omega) (by omega) (by omega) (by omega) (by omega) (by omega) (by omega) (by omega)
 have v2:val ((List.range 8).map fun t=>(b1 l t).toNat)=_:=v
 rw [v2]
 omega
theorem uc {x y:Nat} (hx:x<256) (hy:y<256):kxor .u32 (x:Int) (y:Int)=((x ^^^ y:Nat):Int):=by
 unfold kxor
 have e:(BitVec.ofInt IntKind.u32.bits (x:Int) ^^^ BitVec.ofInt IntKind.u32.bits (y:Int)).toNat=x ^^^ y:=by
  rw [BitVec.toNat_xor,BitVec.toNat_ofInt,BitVec.toNat_ofInt]
  show ((x:Int)%((2^32:Nat):Int)).toNat ^^^ ((y:Int)%((2^32:Nat):Int)).toNat=_
  rw [show ((x:Int)%((2^32:Nat):Int)).toNat=x by omega,show ((y:Int)%((2^32:Nat):Int)).toNat=y by omega]
 rw [e]
 have hlt:x ^^^ y<2^8:=Nat.xor_lt_two_pow (by omega) (by omega)
 generalize x ^^^ y=v at *
 exact Z6 (by omega) (by omega)
theorem Mv:((List.range 256).all fun x=>(if x>=128 then kxor .u32 (wa .u32 (wa .u32 ((x:Int)-128)*2)) 29 else wa .u32 ((x:Int)*2))==((nx x 0:Nat):Int))=true:=by kernel_rfl
theorem Vx {x0 n:Nat} (hx:x0<256) (hn:n<=8) (c0:Int) (bs:List Int) (c2 c5:Int):Ok (fun r=>r=((Tn n x0:Nat):Int)) (zj.l1 5000 c0 bs c2 29 128 c5 (n:Int) 5000 (x0:Int) 0):=by
 unfold zj.l1
 refine wu (fun x i=>0<=i/\i<=(n:Int)/\∃ y:Nat,x=(y:Int)/\y<256/\Tn (n-i.toNat) y=Tn n x0) (fun _ i=>((n:Int)-i).toNat) _ ?_ 5000 _ _ ⟨by omega,by omega,x0,rfl,hx,rfl⟩ (by omega)
 rintro next x i ⟨g1,g2,y,rfl,g3,g4⟩ ih
 refine Ok.ite (fun d=>?_) (fun d=>Ok.some ?_)
 ·have d:=dt d
  have hs:=beq_iff_eq.mp (List.all_eq_true.mp Mv y (List.mem_range.mpr g3))
  refine Ok.bind (Q:=fun v=>v=((nx y 0:Nat):Int)) (Ok.ite (fun c=>Ok.some ?_) (fun c=>Ok.some ?_)) ?_
  ·have c:=dt c
   rw [if_pos (by omega)] at hs; exact hs
  ·have c:=df c
   rw [if_neg (by omega)] at hs; exact hs
  ·rintro _ rfl
   have e:=kw1 (x:=i) (by omega) (by omega)
   refine ih _ _ ⟨by omega,by omega,nx y 0,rfl,(Ho g3 (by decide)).2,?_⟩ (by omega)
   rw [<-g4,e,show n-i.toNat=(n-(i+1).toNat)+1 by omega]; rfl
 ·have d:=df d
  rw [<-g4,show n-i.toNat=0 by omega]; rfl
theorem vv (L:List Int) (j:Nat) {t:Nat} (ht:t<8):b1 ((L.drop j).take 8) t=b1 L (j+t):=by
 unfold b1
 rw [List.getD_eq_getElem?_getD,List.getD_eq_getElem?_getD,List.getElem?_take,if_pos ht,List.getElem?_drop]
theorem ga {L:List Int} (hL:Bit L) (hn:L.length<=4000):Ok (fun r=>r=((crc 15 (jS L):Nat):Int)) (zj 5000 8 (pk ((L.length+7)/8) L) (L.length:Int)):=by
 refine Ok.bind (Ok.is (show jc 5000 8=some (15,29,true) from rfl)) ?_
 rintro _ rfl
 refine Ok.gd (by decide) (Ok.bind (Q:=fun r=>r=((crc 15 (jS L):Nat):Int)) ?_ (fun r hr=>Ok.some hr))
 have e128:kshl .u32 1 (wa .u64 (wa .i64 (8-1)))=128:=by kernel_rfl
 rw [e128]
 unfold zj.l0
 refine wu (fun s i=>∃ j:Nat,i=(j:Int)/\j<=(L.length+7)/8/\s=((crc 15 (jS (L.take (8*j))):Nat):Int)) (fun _ i=>((L.length:Int)-i).toNat) _ ?_ 5000 _ _ ⟨0,rfl,by omega,rfl⟩ (by omega)
 rintro next s i ⟨j,rfl,g2,rfl⟩ ih
 have k8:wa .i64 (8*(j:Int))=8*(j:Int):=zH (by omega) (by omega)
 have hbt:Bn (jS (L.take (8*j))):=ZD (fun q=>by
  unfold b1
  rw [List.getD_eq_getElem?_getD,List.getElem?_take]
  split
  ·have:=hL q; unfold b1 at this; rwa [List.getD_eq_getElem?_getD] at this
  ·exact .inl rfl)
 have hcr:=Ys (jS (L.take (8*j))) (s:=15) (by decide) hbt
 unfold zj.r0
 dsimp only
 rw [k8]
 refine Ok.ite (fun d=>?_) (fun d=>Ok.some ?_)
 ·have d:=dt d
  have hr:=Je hL j
  have hat:Kd.nth (.int .u8) (pk ((L.length+7)/8) L) (Int.toNat (j:Int))=pby L j:=VX (by omega)
  have eu:wa .u64 (wa .i64 (8-8))=0:=by kernel_rfl
  have hsb:Bit ((L.drop (8*j)).take 8):=fun q=>by
   by_cases hq:q<8
   ·rw [vv L (8*j) hq]; exact hL _
   ·exact .inl (vj (by rw [List.length_take]; omega))
  have hv:pby L j=((val (jS ((L.drop (8*j)).take 8)):Nat):Int):=by
   rw [mi _ (by rw [List.length_take]; omega) hsb]
   unfold pby
   rw [vv L (8*j) (by decide),vv L (8*j) (by decide),vv L (8*j) (by decide),vv L (8*j) (by decide),vv L (8*j) (by decide),vv L (8*j) (by decide),vv L (8*j) (by decide),vv L (8*j) (by decide)]
   simp only [Nat.add_zero]
  have hwl:(jS ((L.drop (8*j)).take 8)).length=min 8 (L.length-8*j):=by simp [jS]
  have hd:=ul (w:=jS ((L.drop (8*j)).take 8)) (by omega)
  have hT:=Uw (jS ((L.drop (8*j)).take 8)) (s:=crc 15 (jS (L.take (8*j)))) hcr (ZD hsb) (by omega)
  have hvr:=U5 (ZD hsb)
  have hcat:crc (crc 15 (jS (L.take (8*j)))) (jS ((L.drop (8*j)).take 8))=crc 15 (jS (L.take (8*(j+1)))):=by
   rw [<-Yi,<-uC,show 8*(j+1)=8*j+8 by omega,List.take_add]
  rw [hcat,hwl] at hT
  rw [hwl] at hd
  generalize val (jS ((L.drop (8*j)).take 8))=V at *
  generalize crc 15 (jS (L.take (8*j)))=s0 at *
  have ksh:kshl .u32 (V:Int) 0=V:=by unfold kshl; rw [show (2:Int)^(min (Int.toNat 0) IntKind.u32.bits)=1 from rfl,Int.mul_one]; exact Z6 (by omega) (by omega)
  have hxl:s0 ^^^ V<2^8:=Nat.xor_lt_two_pow (by omega) (by omega)
  have kd:wa .i64 ((L.length:Int)-8*(j:Int))=(L.length:Int)-8*(j:Int):=zH (by omega) (by omega)
  have him:imin ((L.length:Int)-8*(j:Int)) 8=((min 8 (L.length-8*j):Nat):Int):=by unfold imin; split<;>omega
  rw [hat,eu,hv,Z6 (by omega) (by omega),ksh,uc hcr hvr,kd,him]
  refine Ok.gd ⟨by omega,by rw [xy]; omega,by decide⟩ (Ok.bind (Q:=fun x=>x=((s0 ^^^ V:Nat):Int)) ?_ ?_)
  ·refine Ok.ite (fun c=>?_) (fun _=>Ok.some rfl)
   have c:=dt c
   have c1:min 8 (L.length-8*j)<=7/\1<=min 8 (L.length-8*j):=by omega
   generalize min 8 (L.length-8*j)=m at *
   have k1:wa .i64 (8-(m:Int))=((8-m:Nat):Int):=by rw [zH (by omega) (by omega)]; omega
   have k2:wa .u64 ((8-m:Nat):Int)=((8-m:Nat):Int):=He (by omega) (by omega)
   have hp:=Ki (s:=8-m) (t:=7) (by omega)
   have hp1:=Ki (s:=1) (t:=8-m) (by omega)
   have e7:(2:Int)^7=128:=rfl
   have e1:(2:Int)^1=2:=rfl
   have k3:kshl .u32 1 ((8-m:Nat):Int)=2^(8-m):=by
    unfold kshl
    rw [show min (Int.toNat ((8-m:Nat):Int)) IntKind.u32.bits=8-m from Nat.min_eq_left (by show 8-m<=32; omega),Int.one_mul]
    exact Z6 (by omega) (by omega)
   have k4:Int.tmod (V:Int) (2^(8-m))=0:=by
    rw [Int.tmod_eq_emod_of_nonneg (by omega)]
    have:((2^(8-m):Nat):Int)=2^(8-m):=by push_cast; rfl
    rw [<-this]
    exact Int.emod_eq_zero_of_dvd (Int.natCast_dvd_natCast.mpr hd)
   rw [k1,k2,k3,k4]
   refine Ok.gd ⟨by omega,by rw [xy]; omega,by omega,by omega,by decide⟩ (Ok.some ?_)
   have kz:kshl .u32 0 0=0:=by kernel_rfl
   rw [kz]
   have:=uc (x:=s0 ^^^ V) (y:=0) hxl (by decide)
   rw [Nat.xor_zero] at this
   exact this
  ·rintro _ rfl
   refine Ok.bind (Vx hxl (by omega) _ _ _ _) ?_
   rintro _ rfl
   have e:=kw1 (x:=(j:Int)) (by omega) (by omega)
   refine ih _ _ ⟨j+1,by rw [e]; omega,by omega,?_⟩ (by rw [e]; omega)
   rw [hT]
 ·have d:=df d
  rw [List.take_of_length_le (by omega)]
end Go.Fo
