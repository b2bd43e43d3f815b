/- The frame that is laid,exactly. -/
import Derived.Test.YtiihmaaobmpabaaGreatSfEa
namespace Go.Fo
set_option maxRecDepth 6000
theorem Hj {x:Int}:0<=kand .u32 x 255/\kand .u32 x 255<256:=by
 unfold kand
 have h:=ZV 32 x 8 (by decide)
 rw [show (2:Int)^8-1=255 from rfl,show (2:Int)^8=256 from rfl] at h
 show 0<=wa .u32 ((BitVec.ofInt 32 x &&& BitVec.ofInt 32 255).toNat:Int)/\wa .u32 ((BitVec.ofInt 32 x &&& BitVec.ofInt 32 255).toNat:Int)<256
 rw [h,Z6 (by omega) (by omega)]; omega
theorem HC:((List.range 256).all fun y=>decide (0<=kxor .u32 (y:Int) 29)&&decide (kxor .u32 (y:Int) 29<256))=true:=by kernel_rfl
theorem MN {x:Int} (h0:0<=x) (h1:x<256):0<=kxor .u32 x 29/\kxor .u32 x 29<256:=by
 have h:=List.all_eq_true.mp HC x.toNat (List.mem_range.mpr (by omega))
 rw [show ((x.toNat:Nat):Int)=x by omega] at h
 have h:=Bool.and_eq_true_iff.mp h
 exact ⟨of_decide_eq_true h.1,of_decide_eq_true h.2⟩
theorem gb {b:List Int} {n:Int} (hb:b.length<=600):Ok (fun r=>0<=r.1/\r.1<256) (xz 5000 8 b n):=by
 refine Ok.bind (Ok.is (show vg 5000 8=some (8,15,29,0) from rfl)) ?_
 rintro _ rfl
 refine Ok.ite (fun _=>Ok.some (by decide)) (fun c=>?_)
 have c2:0<=n/\n<=8*(b.length:Int):=by
  have e:wa .i64 (8*(b.length:Int))=8*(b.length:Int):=zH (by omega) (by omega)
  have c:(bif (bif ((0:Int) != 0) then true else decide (n<0)) then true else decide (n>wa .i64 (8*(b.length:Int))))=false:=c
  rw [e] at c
  cases h1:decide (n<0)
  ·rw [h1] at c
   have:=df h1
   have:decide (n>8*(b.length:Int))=false:=c
   have:=df this
   omega
  ·rw [h1] at c; cases c
 refine Ok.bind (Q:=fun r=>0<=r/\r<256) ?_ (fun r hr=>Ok.some hr)
 refine Ok.bind (Q:=fun r=>0<=r/\r<256) ?_ (fun r hr=>Ok.some hr)
 unfold qC.l0
 refine wu (fun s i=>(0<=i/\i<=n)/\0<=s/\s<256) (fun _ i=>(n-i).toNat) _ ?_ 5000 _ _ ⟨⟨by omega,by omega⟩,by decide,by decide⟩ (by omega)
 rintro next s i ⟨⟨h1,h2⟩,h3⟩ ih
 refine Ok.ite (fun d=>?_) (fun _=>Ok.some h3)
 have d:=dt d
 have e1:wa .i64 (Int.tdiv i 8)=i/8:=by rw [Int.tdiv_eq_ediv_of_nonneg h1,zH (by omega) (by omega)]
 have e2:wa .i64 (7-Int.tmod i 8)=7-i%8:=by rw [Int.tmod_eq_emod_of_nonneg h1,zH (by omega) (by omega)]
 refine Ok.gd ⟨by rw [e1]; omega,by rw [e1]; omega⟩ (Ok.gd (by rw [e2]; omega) ?_)
 refine Ok.bind (Q:=fun r=>0<=r/\r<256) ?_ ?_
 ·have h255:wa .u32 (kshl .u32 1 8-1)=255:=by kernel_rfl
  refine Ok.gd (by decide) (Ok.gd (by decide) (Ok.bind (Q:=fun r=>0<=r/\r<256) ?_ (fun r hr=>Ok.some hr)))
  have ha:=Hj (x:=kshl .u32 s 1)
  rw [h255]
  exact Ok.ite (fun _=>Ok.some (MN ha.1 ha.2)) (fun _=>Ok.some ha)
 ·intro r hr
  have e:=kw1 (x:=i) (by omega) (by omega)
  exact ih _ _ ⟨⟨by omega,by omega⟩,hr⟩ (by omega)
theorem ge (p0 p1 p2 p3 p4 p5 p6 p7 p8 p9:Int) {J:List Int} {S:List (List Int)} (Q:List (List (List Int))) (hf:Fit p0 p1 p2 p3 p4 p5 p6 p7 p8 p9 S) (hj:(J.length:Int)=p3):Ok (fun s=>0<=s/\s<256) (z8 5000 p0 p1 p2 p3 p4 p5 p6 p7 p8 p9 J S Q):=by
 refine Ok.bind (Ok.is (UA (by decide) (by decide))) ?_
 rintro _ rfl
 have hl:(List.replicate (Int.toNat 512) (0:Int)).length=512:=by simp
 refine Ok.bind (G8 p0 p1 p2 p3 p4 p5 p6 p7 p8 p9) ?_
 intro l hl2
 refine Ok.bind (Mt (by omega) (by omega) (by omega) (by omega)) ?_
 rintro ⟨n1,x1,b1⟩ ⟨a1,a2,a3⟩
 have a1:b1.length=(List.replicate (Int.toNat 512) (0:Int)).length:=a1
 refine Ok.bind (JL p0 p1 p2 p3 p4 p5 p6 p7 p8 p9 Q hf hj) ?_
 rintro s ⟨_,hs⟩
 have a2:0<=x1:=a2
 have a3:x1<=8*((List.replicate (Int.toNat 512) (0:Int)).length:Int):=a3
 refine Ok.bind (Mt (b:=b1) (by omega) (by omega) a2 (by omega)) ?_
 rintro ⟨n2,x2,b2⟩ ⟨c1,c2,c3⟩
 have c1:b2.length=b1.length:=c1
 refine Ok.bind (Q:=fun r=>r=b2) (Ok.bind (ZP (by omega) (by omega)) (fun r hr=>Ok.some hr)) ?_
 rintro _ rfl
 refine Ok.bind (gb (by omega)) ?_
 rintro ⟨y1,y2⟩ hy
 have hy:0<=y1/\y1<256:=hy
 exact Ok.some (by rw [zH (by omega) (by omega)]; exact hy)
-- widths
theorem jr (l m:List (Int × Int)):wid (l++m)=wid l+wid m:=by unfold wid; rw [jj,List.length_append]
theorem YF (q:Int × Int):wid [q]=q.2.toNat:=by unfold wid; rw [vo,kO]
theorem Yx (f:Nat->Int × Int) {k:Int} (h:∀ i,(f i).2=k):∀ n,wid ((List.range n).map f)=n*k.toNat
 | 0=>by rw [Nat.zero_mul]; rfl
 | n+1=>by rw [yD,jr,Yx f h n,YF,h,Nat.add_mul,Nat.one_mul]
theorem UP (l:List Int) (k:Int):wid (tg l k)=l.length*k.toNat:=Yx (fun i:Nat=>(at' l i,k)) (fun _=>rfl) _
theorem Z8 {f:Nat->List (Int × Int)} {k:Nat}:∀ n,(∀ i,i<n->wid (f i)=k)->wid ((List.range n).flatMap f)=n*k
 | 0,_=>by rw [Nat.zero_mul]; rfl
 | n+1,h=>by rw [xW,jr,Z8 n (fun i hi=>h i (by omega)),h n (by omega),Nat.add_mul,Nat.one_mul]
theorem U3 (r w:List Int):∀ n,wid ((List.range n).map fun b:Nat=>(at' r b,at' w b))=(List.range n).foldl (fun a b:Nat=>a+(at' w b).toNat) 0
 | 0=>rfl
 | n+1=>by rw [yD,jr,U3 r w n,YF,List.range_succ,List.foldl_append]; rfl
def fz (z:Int->Int) (C c n:Nat):Nat:=(List.range n).foldl (fun a b:Nat=>a+(z ((b*C+c:Nat):Int)).toNat) 0
theorem HT (z:Int->Int) (C c n:Nat):fz z C c (n+1)=fz z C c n+(z ((n*C+c:Nat):Int)).toNat:=by unfold fz; rw [List.range_succ,List.foldl_append]; rfl
theorem fz1 {z:Int->Int} (hz:∀ i,0<=z i):∀ n,(fz z 1 0 n:Int)=sm z (n*1)
 | 0=>rfl
 | n+1=>by
  have ih:=fz1 hz n
  have h0:=hz ((n*1:Nat):Int)
  rw [HT,show (n+1)*1=n*1+1 by omega,K2,show n*1+0=n*1 from rfl,<-ih]
  omega
theorem fz2 {z:Int->Int} (hz:∀ i,0<=z i):∀ n,((fz z 2 0 n+fz z 2 1 n:Nat):Int)=sm z (n*2)
 | 0=>rfl
 | n+1=>by
  have ih:=fz2 hz n
  have h0:=hz ((n*2:Nat):Int)
  have h1:=hz ((n*2+1:Nat):Int)
  rw [HT,HT,show (n+1)*2=n*2+1+1 by omega,K2,K2,show n*2+0=n*2 from rfl,<-ih]
  omega
theorem Me {B:List (List Int)} {C N:Nat} {z:Int->Int} (hC:C=1\/C=2) (hN:N=4\/N=8) (hz:∀ i,0<=z i) (hB:Sh C N B):(wid (bz B (rw_ C N z)):Int)=sm z (N*C):=by
 have hr:∀ c,c<C->wid (rz (row B c) (row (rw_ C N z) c))=(List.range N).foldl (fun a b:Nat=>a+(z ((b*C+c:Nat):Int)).toNat) 0:=by
  intro c hc
  unfold rz
  have hl:(row B c).length=N:=by have:=hB.2 c (by omega) (by omega); omega
  rw [U3,hl]
  have:∀ n,n<=N->(List.range n).foldl (fun a b:Nat=>a+(at' (row (rw_ C N z) c) b).toNat) 0=(List.range n).foldl (fun a b:Nat=>a+(z ((b*C+c:Nat):Int)).toNat) 0:=by
   intro n
   induction n with
   | zero=>intro _; rfl
   | succ n ih =>
    intro hn
    rw [List.range_succ,List.foldl_append,List.foldl_append,ih (by omega)]
    show _+(at' (row (rw_ C N z) c) n).toNat=_+_
    rw [vN hc (by omega)]
  exact this N (Nat.le_refl _)
 have hl:B.length=C:=by have:=hB.1; omega
 unfold bz
 rw [hl]
 rcases hC with rfl | rfl
 ·rw [show (1:Nat)=0+1 from rfl,xW,jr,hr 0 (by omega)]
  have:=fz1 hz N
  show ((0+fz z 1 0 N:Nat):Int)=_
  rw [Nat.zero_add]; exact this
 ·rw [show (2:Nat)=0+1+1 from rfl,xW,xW,jr,jr,hr 0 (by omega),hr 1 (by omega)]
  have:=fz2 hz N
  show ((0+fz z 2 0 N+fz z 2 1 N:Nat):Int)=_
  rw [Nat.zero_add]; exact this
def JA (p1 p2 p3 p4 p5 p6 p7 s:Int):List (Int × Int):=[(156,8)]++j4 p1 p2 p3 p4 p5 p6 p7++[(s,8)]
theorem Kn (p1 p2 p3 p4 p5 p6 p7 s:Int):wid (JA p1 p2 p3 p4 p5 p6 p7 s)=32:=rfl
theorem ZS {C N:Int} {S:List (List Int)} (hS:Sh C N S) (h0:0<=N):(wid (j6 S):Int)=4*N*C:=by
 unfold j6
 have hk:∀ i,i<S.length->wid (tg (row S i) 4)=N.toNat*4:=by
  intro i hi
  have h1:=hS.1
  have h2:=hS.2 i (by omega) (by omega)
  have h3:(row S i).length=N.toNat:=by omega
  rw [UP,h3]; rfl
 rw [Z8 S.length hk]
 have h1:=hS.1
 rw [<-h1,Int.natCast_mul,show ((N.toNat*4:Nat):Int)=4*N by omega,Int.mul_comm]
theorem W6 (p6:Int) (J:List Int) (h6:p6=0\/p6=1):(wid (kX p6 J):Int)=p6*J.length:=by
 unfold kX
 rcases h6 with rfl | rfl
 ·rw [if_neg (by decide),Int.zero_mul]; rfl
 ·rw [if_pos rfl,UP,Int.one_mul]; simp
theorem Vf {M:Int} {C N:Nat} {z:Int->Int} {Q:List (List (List Int))} (hC:C=1\/C=2) (hN:N=4\/N=8) (hz:∀ i,0<=z i) (hQ:Cd M C N Q):(wid (y5 (rw_ C N z) Q):Int)=M*sm z (N*C):=by
 have hs:0<=sm z (N*C):=by
  have:∀ n,0<=sm z n:=by
   intro n
   induction n with
   | zero=>exact Int.le_refl _
   | succ n ih=>rw [K2]; have:=hz n; omega
  exact this _
 unfold y5
 rw [Z8 (k:=(sm z (N*C)).toNat) Q.length (fun i hi=>by have:=Me hC hN hz (hQ.2 i (by omega) (by have:=hQ.1; omega)); omega)]
 have:=hQ.1
 rw [<-this,Int.natCast_mul,Int.toNat_of_nonneg hs]
end Go.Fo
