/- The coder of ranges: what it puts,exactly. -/
import Derived.Test.YtllmmohdmmneoaaGreatMaWb
namespace Go.Fo
set_option maxRecDepth 6000
def flo (t:Li):Nat->Int
  | 0=>0
  | i+1=>flo t i+t.getD i 0
structure Tb (t:Li):Prop where
  l2:2<=t.length
  l32:t.length<=32
  pos:∀i,i<t.length->1<=t.getD i 0
  all:flo t t.length<=4096
theorem jc {t:Li} (h:Tb t) {i j:Nat} (hij:i<=j) (hj:j<=t.length):flo t i+((j-i:Nat):Int)<=flo t j:=by
 induction j with
 | zero =>
  obtain rfl:i=0:=by omega
  simp
 | succ j ih =>
  by_cases e:i=j+1
  ·rw[e];simp
  ·have:=ih (by omega) (by omega)
   have hp:=h.pos j (by omega)
   show _<=flo t j+t.getD j 0
   omega
theorem vW {t:Li} (h:Tb t) {i:Nat} (hi:i<=t.length):0<=flo t i:=by
 have:=jc h (Nat.zero_le i) hi
 have e:flo t 0=0:=rfl
 omega
theorem Yn {t:Li} (h:Tb t):z8 100000 t=some (flo t t.length):=by
 have h1:=h.l2;have h2:=h.l32
 refine wq (by rw[decide_eq_false (by omega),decide_eq_false (by omega)];rfl) (wr (x:=.inl (flo t t.length)) ?_ rfl)
 have key:∀(j m:Nat),j<m->j<=t.length->z8.l0 100000 t t.length m (flo t (t.length-j)) ((t.length-j:Nat):Int)=some (.inl (flo t t.length)):=by
  intro j
  induction j with
  | zero =>
   intro m hm _
   obtain ⟨m,rfl⟩:∃q,m=q+1:=⟨m-1,by omega⟩
   show z8.r0 100000 t t.length (z8.l0 100000 t t.length m) _ _=_
   unfold z8.r0
   exact wq (decide_eq_false (by omega)) rfl
  | succ j ih =>
   intro m hm hj
   obtain ⟨m,rfl⟩:∃q,m=q+1:=⟨m-1,by omega⟩
   have ih:=ih m (by omega) (by omega)
   have e:t.length-j=t.length-(j+1)+1:=by omega
   rw[e] at ih
   generalize hi:t.length-(j+1)=i at ih ⊢
   show z8.r0 100000 t t.length (z8.l0 100000 t t.length m) _ _=_
   unfold z8.r0
   have hil:i<t.length:=by omega
   have hp:=h.pos i hil
   have hm2:=jc h (show i+1<=t.length by omega) (Nat.le_refl _)
   have hn:=vW h (show i<=t.length by omega)
   have ha:=h.all
   have e1:flo t (i+1)=flo t i+t.getD i 0:=rfl
   have e2:Kd.nth (.int .i64) t (Int.toNat (i:Int))=t.getD i 0:=rfl
   refine wI (decide_eq_true (by omega)) (zp ⟨by omega,by omega⟩ (wq ?_ ?_))
   ·have hc:(bif decide ((t.getD i 0:Int)<1) then true else decide ((t.getD i 0:Int)>wb .i64 (4096-flo t i)))=false:=by
     rw[wT (x:=4096-flo t i) (by omega) (by omega),decide_eq_false (by omega),decide_eq_false (by omega)];rfl
    exact hc
   ·dsimp only
    rw[e2,wT (x:=flo t i+t.getD i 0) (by omega) (by omega),kw1 (by omega) (by omega),<-e1]
    exact ih
 have:=key t.length 100000 (by omega) (Nat.le_refl _)
 rwa[Nat.sub_self] at this
theorem tkget {t:Li} {s i:Nat} (h:i<s):(t.take s).getD i 0=t.getD i 0:=by
 rw[List.getD_eq_getElem?_getD,List.getD_eq_getElem?_getD,List.getElem?_take,if_pos h]
def nl (t:Li) (s:Nat) (lo hi:Int):Int:=lo+(hi-lo+1)*flo t s/flo t t.length
structure Rn (lo hi:Int):Prop where
  l0:0<=lo
  lh:lo<=hi
  h1:hi<=65535
theorem YV {t:Li} (h:Tb t) {lo hi:Int} (hr:Rn lo hi) {s:Nat} (hs:s<=t.length):0<=(hi-lo+1)*flo t s/\(hi-lo+1)*flo t s<=268435456/\lo<=nl t s lo hi/\nl t s lo hi<=hi+1:=by
 obtain ⟨r0,r1,r2⟩:=hr
 have hn:=vW h hs
 have hm:=jc h hs (Nat.le_refl _)
 have ha:=h.all
 have hl:=h.l2
 have ha0:0<flo t t.length:=by have:=jc h (show 0<=t.length by omega) (Nat.le_refl _);have e:flo t 0=0:=rfl;omega
 have hW:0<=hi-lo+1:=by omega
 have h1:0<=(hi-lo+1)*flo t s:=Int.mul_nonneg hW hn
 have h2:(hi-lo+1)*flo t s<=65536*4096:=Int.mul_le_mul (by omega) (by omega) hn (by omega)
 have h3:(hi-lo+1)*flo t s<=(hi-lo+1)*flo t t.length:=Int.mul_le_mul_of_nonneg_left (by omega) hW
 have h4:(hi-lo+1)*flo t s/flo t t.length<=hi-lo+1:=Int.ediv_le_of_le_mul ha0 h3
 have h5:=Int.ediv_nonneg h1 (Int.le_of_lt ha0)
 unfold nl
 omega
theorem gg {t:Li} (h:Tb t) {lo hi:Int} (hr:Rn lo hi) (hw:4096<=hi-lo+1) {s:Nat} (hs:s<t.length):nl t s lo hi+1<=nl t (s+1) lo hi:=by
 obtain ⟨r0,r1,r2⟩:=hr
 have ha:=h.all
 have hp:=h.pos s hs
 have ha0:0<flo t t.length:=by have:=jc h (show 0<=t.length by omega) (Nat.le_refl _);have e:flo t 0=0:=rfl;omega
 have e1:flo t (s+1)=flo t s+t.getD s 0:=rfl
 have h6:(hi-lo+1)*flo t s/flo t t.length+1<=(hi-lo+1)*flo t (s+1)/flo t t.length:=by
  refine Int.le_ediv_of_mul_le ha0 ?_
  have g1:=Int.ediv_mul_le ((hi-lo+1)*flo t s) (show flo t t.length≠0 by omega)
  have g2:(hi-lo+1)*flo t (s+1)=(hi-lo+1)*flo t s+(hi-lo+1)*t.getD s 0:=by rw[e1,Int.mul_add]
  have g3:(hi-lo+1)*1<=(hi-lo+1)*t.getD s 0:=Int.mul_le_mul_of_nonneg_left hp (by omega)
  rw[g2,Int.add_mul,Int.one_mul]
  omega
 unfold nl;omega
theorem Z9 {t:Li} (h:Tb t) {lo hi:Int} (hr:Rn lo hi) {s:Nat} (hs:s<t.length) (ow:Int) (en:Bool) (n:Int) (b:Li):wH 100000 t s (flo t t.length) lo hi ow en n b=some (nl t s lo hi,nl t (s+1) lo hi-1):=by
 have hl:=h.l32
 have key:∀(j m:Nat),j<m->j<=s->wH.l0 100000 t s (flo t t.length) (t.take s) s lo hi ow en n b m (flo t (s-j)) ((s-j:Nat):Int)=some (flo t s):=by
  intro j
  induction j with
  | zero =>
   intro m hm _
   obtain ⟨m,rfl⟩:∃q,m=q+1:=⟨m-1,by omega⟩
   show wH.r0 100000 t s (flo t t.length) (t.take s) s lo hi ow en n b (wH.l0 100000 t s (flo t t.length) (t.take s) s lo hi ow en n b m) _ _=_
   unfold wH.r0
   exact wq (decide_eq_false (by omega)) rfl
  | succ j ih =>
   intro m hm hj
   obtain ⟨m,rfl⟩:∃q,m=q+1:=⟨m-1,by omega⟩
   have ih:=ih m (by omega) (by omega)
   have e:s-j=s-(j+1)+1:=by omega
   rw[e] at ih
   generalize hi':s-(j+1)=i at ih ⊢
   show wH.r0 100000 t s (flo t t.length) (t.take s) s lo hi ow en n b (wH.l0 100000 t s (flo t t.length) (t.take s) s lo hi ow en n b m) _ _=_
   unfold wH.r0
   have hn:=vW h (show i+1<=t.length by omega)
   have hn0:=vW h (show i<=t.length by omega)
   have hm2:=jc h (show i+1<=t.length by omega) (Nat.le_refl _)
   have ha:=h.all
   have e1:flo t (i+1)=flo t i+t.getD i 0:=rfl
   have e2:Kd.nth (.int .i64) (t.take s) (Int.toNat (i:Int))=t.getD i 0:=tkget (by omega)
   refine wI (decide_eq_true (by omega)) (zp ⟨by omega,by rw[List.length_take];omega⟩ ?_)
   dsimp only
   rw[e2,<-e1,wT (x:=flo t (i+1)) (by omega) (by omega),kw1 (by omega) (by omega)]
   exact ih
 have hk:=key s 100000 (by omega) (Nat.le_refl _)
 rw[Nat.sub_self] at hk
 have q1:=YV h hr (show s<=t.length by omega)
 have q2:=YV h hr (show s+1<=t.length by omega)
 have hn:=vW h (show s+1<=t.length by omega)
 have hm2:=jc h (show s+1<=t.length by omega) (Nat.le_refl _)
 have ha:=h.all
 have ha0:0<flo t t.length:=by have:=jc h (show 0<=t.length by omega) (Nat.le_refl _);have e:flo t 0=0:=rfl;omega
 have hrr:=hr
 obtain ⟨r0,r1,r2⟩:=hrr
 have e0:((t.take (Int.toNat (s:Int))).drop (Int.toNat 0))=t.take s:=rfl
 have e2:Kd.nth (.int .i64) t (Int.toNat (s:Int))=t.getD s 0:=rfl
 have e1:flo t s+t.getD s 0=flo t (s+1):=rfl
 unfold wH
 dsimp only
 rw[e0,List.length_take,show min s t.length=s by omega]
 refine zp ⟨by omega,by omega⟩ (wr hk (wr (x:=hi-lo+1) ?_ ?_))
 ·unfold kT
  dsimp only
  rw[wT (x:=hi-lo) (by omega) (by omega),wT (x:=hi-lo+1) (by omega) (by omega)]
 ·refine zp ⟨by omega,by omega,by omega⟩ (zp (by omega) ?_)
  rw[e2,e1,wT (x:=flo t (s+1)) (by omega) (by omega),wT (x:=(hi-lo+1)*flo t (s+1)) (by omega) (by omega),wT (x:=(hi-lo+1)*flo t s) (by omega) (by omega),Int.tdiv_eq_ediv_of_nonneg q1.1,Int.tdiv_eq_ediv_of_nonneg q2.1]
  unfold nl at q1 q2 ⊢
  rw[wT (x:=(hi-lo+1)*flo t (s+1)/flo t t.length) (by omega) (by omega),wT (x:=(hi-lo+1)*flo t s/flo t t.length) (by omega) (by omega),wT (x:=lo+(hi-lo+1)*flo t (s+1)/flo t t.length) (by omega) (by omega),wT (x:=lo+(hi-lo+1)*flo t (s+1)/flo t t.length-1) (by omega) (by omega),wT (x:=lo+(hi-lo+1)*flo t s/flo t t.length) (by omega) (by omega)]
def lg (B:Li) (i:Nat):Int:=B.getD i 0
def Bl (B:Li):Prop:=∀x∈B,x=0\/x=1
theorem X9 {B:Li} (h:Bl B):B01 (lg B):=fun i=>by
 unfold lg
 by_cases e:i<B.length
 ·rw[List.getD_eq_getElem?_getD,List.getElem?_eq_getElem e];exact h _ (List.getElem_mem e)
 ·rw[List.getD_eq_getElem?_getD,List.getElem?_eq_none (by omega)];exact .inl rfl
theorem vk {B:Li} {i:Nat} (h:B.length<=i):lg B i=0:=by
 unfold lg;rw[List.getD_eq_getElem?_getD,List.getElem?_eq_none h];rfl
theorem gY (B:Li) (x:Int):lg (B++[x])=upd (lg B) B.length x:=by
 funext i
 show (B++[x]).getD i 0=if i=B.length then x else B.getD i 0
 rw[List.getD_eq_getElem?_getD,List.getD_eq_getElem?_getD]
 by_cases e:i<B.length
 ·rw[if_neg (by omega),List.getElem?_append_left e]
 ·rw[List.getElem?_append_right (by omega)]
  by_cases e2:i=B.length
  ·rw[if_pos e2,e2,Nat.sub_self];rfl
  ·rw[if_neg e2,List.getElem?_eq_none (by simp;omega),List.getElem?_eq_none (by omega)]
theorem Bl.app {A B:Li} (h:Bl A) (k:Bl B):Bl (A++B):=fun x hx=>by
 rcases List.mem_append.1 hx with q|q
 ·exact h x q
 ·exact k x q
theorem Bl.one {x:Int} (h:x=0\/x=1):Bl [x]:=fun y hy=>by rw[List.mem_singleton.1 hy];exact h
theorem Bl.rep {x:Int} (n:Nat) (h:x=0\/x=1):Bl (List.replicate n x):=fun y hy=>by rw[(List.mem_replicate.1 hy).2];exact h
def pbl (B:Li):Li:=pf ((B.length+7)/8) (lg B)
theorem Yy (B:Li):(pbl B).length=(B.length+7)/8:=kH _ _
theorem orz:((List.range 256).all fun y=>kor .u8 (y:Int) 0==(y:Int))=true:=by kernel_rfl
theorem Mm {y:Int} (h0:0<=y) (h1:y<256):kor .u8 y 0=y:=by
 have h:=List.all_eq_true.1 orz y.toNat (List.mem_range.2 (by omega))
 rw[Int.toNat_of_nonneg h0] at h
 exact beq_iff_eq.1 h
theorem Mp:((List.range 8).all fun t=>wb .u8 (kshl .i64 1 (((7-t:Nat)):Int))==kshr .u8 128 (t:Int))=true:=by kernel_rfl
theorem gv {B:Li} (hB:Bl B) {x:Int} (hx:x=0\/x=1) (hl:B.length<=1000000) (lo hi ow:Int) (en:Bool):kA 100000 x lo hi ow en B.length (pbl B)=some (((B.length+1:Nat):Int),pbl (B++[x])):=by
 have hm:Int.tmod (B.length:Int) 8=((B.length%8:Nat):Int):=by rw[Int.tmod_eq_emod_of_nonneg (by omega)];omega
 have hd:Int.tdiv (B.length:Int) 8=((B.length/8:Nat):Int):=by rw[Int.tdiv_eq_ediv_of_nonneg (by omega)];omega
 have h01:=X9 hB
 have hz:lg B B.length=0:=vk (Nat.le_refl _)
 have ha:(bif (Int.tmod (B.length:Int) 8==0) then (let j:=pbl B++([0]:Li);gd ((((pbl B).length:Int)+(([0]:Li).length:Int))*1<=70368744177664) <| some j) else some (pbl B))=some (pf (B.length/8+1) (lg B)):=by
  rw[hm]
  by_cases e:B.length%8=0
  ·refine wI (by rw[e];rfl) (zp ?_ ?_)
   ·rw[Yy];show (_+(1:Int))*1<=_;omega
   ·have e1:(B.length+7)/8=B.length/8:=by omega
    unfold pbl
    rw[e1]
    unfold pf
    rw[List.range_succ,List.map_append]
    have:fby (lg B) (B.length/8)=0:=by
     unfold fby
     rw[vk (by omega),vk (by omega),vk (by omega),vk (by omega),vk (by omega),vk (by omega),vk (by omega),vk (by omega)];rfl
    show _=some (_++[fby (lg B) (B.length/8)])
    rw[this]
  ·refine wq ?_ ?_
   ·rw[beq_eq_false_iff_ne];omega
   ·unfold pbl;rw[show (B.length+7)/8=B.length/8+1 by omega]
 refine wr ha ?_
 have ht:B.length%8<8:=Nat.mod_lt _ (by decide)
 have hr:=Vs h01 (B.length/8)
 dsimp only
 rw[hm,hd,wT (x:=((B.length/8:Nat):Int)) (by omega) (by omega)]
 refine zp ⟨by omega,by rw[kH];omega⟩ (zp (by rw[kH];omega) (zp ?_ (zp ⟨by omega,by rw[kH];omega⟩ (zp (by rw[kH];omega) ?_))))
 ·rw[wT (by omega) (by omega)];omega
 ·have e7:wb .i64 (7-((B.length%8:Nat):Int))=((7-B.length%8:Nat):Int):=by rw[wT (by omega) (by omega)];omega
  have hsz:((B++[x]).length+7)/8=B.length/8+1:=by rw[List.length_append];show (B.length+1+7)/8=_;omega
  rw[e7,kw1 (by omega) (by omega)]
  have hget:Kd.nth (.int .u8) (pf (B.length/8+1) (lg B)) (Int.toNat ((B.length/8:Nat):Int))=fby (lg B) (B.length/8):=Ue (by omega)
  rw[hget]
  unfold pbl
  rw[hsz,gY]
  rcases hx with rfl|rfl
  ·have e0:kshl .i64 0 ((7-B.length%8:Nat):Int)=0:=by unfold kshl;rw[Int.zero_mul];decide
   have e00:wb .u8 0=0:=by decide
   rw[e0,e00,Mm hr.1 hr.2,J0 hz]
   have:(pf (B.length/8+1) (lg B)).set (Int.toNat ((B.length/8:Nat):Int)) (fby (lg B) (B.length/8))=pf (B.length/8+1) (lg B):=by
    apply List.ext_getElem
    ·simp
    ·intro k g1 g2
     rw[List.getElem_set]
     split
     ·rename_i e
      have e':B.length/8=k:=by omega
      subst e'
      simp[pf]
     ·rfl
   rw[this];rfl
  ·have e1:=beq_iff_eq.1 (List.all_eq_true.1 Mp (B.length%8) (List.mem_range.2 ht))
   rw[e1]
   have:=V1 (n:=B.length/8+1) h01 (p:=B.length) (by omega) hz
   have e3:Int.toNat ((B.length/8:Nat):Int)=B.length/8:=by omega
   rw[e3,this];rfl
theorem Ji {B:Li} (hB:Bl B) {x:Int} (hx:x=0\/x=1) {ow:Nat} (hl:B.length+ow<=90000) (lo hi:Int) (en:Bool):wM 100000 x lo hi ow en B.length (pbl B)=some (0,((B.length+1+ow:Nat):Int),pbl (B++x::List.replicate ow (1-x))):=by
 refine wr (gv hB hx (by omega) _ _ _ _) ?_
 have hx1:1-x=0\/1-x=1:=by omega
 have key:∀(j m:Nat) (A:Li),Bl A->A.length+j<=100000->j<m->wM.l0 100000 x lo hi en m j A.length (pbl A)=some (0,((A.length+j:Nat):Int),pbl (A++List.replicate j (1-x))):=by
  intro j
  induction j with
  | zero =>
   intro m A hA _ hm
   obtain ⟨m,rfl⟩:∃q,m=q+1:=⟨m-1,by omega⟩
   show wM.r0 100000 x lo hi en (wM.l0 100000 x lo hi en m) ((0:Nat):Int) A.length (pbl A)=_
   unfold wM.r0
   refine wq (decide_eq_false (by omega)) ?_
   rw[List.replicate_zero,List.append_nil];rfl
  | succ j ih =>
   intro m A hA hAl hm
   obtain ⟨m,rfl⟩:∃q,m=q+1:=⟨m-1,by omega⟩
   show wM.r0 100000 x lo hi en (wM.l0 100000 x lo hi en m) ((j+1:Nat):Int) A.length (pbl A)=_
   unfold wM.r0
   refine wI (decide_eq_true (by omega)) ?_
   dsimp only
   rw[wT (x:=1-x) (by omega) (by omega)]
   refine wr (gv hA hx1 (by omega) _ _ _ _) ?_
   dsimp only
   rw[wT (x:=((j+1:Nat):Int)-1) (by omega) (by omega)]
   have:=ih m (A++[1-x]) (hA.app (Bl.one hx1)) (by rw[List.length_append];show A.length+1+j<=_;omega) (by omega)
   rw[List.length_append] at this
   rw[show ((j+1:Nat):Int)-1=(j:Int) by omega]
   rw[show A++List.replicate (j+1) (1-x)=A++[1-x]++List.replicate j (1-x) by rw[List.replicate_succ];simp]
   rw[show A.length+(j+1)=A.length+[1-x].length+j by show _=A.length+1+j;omega]
   exact this
 have:=key ow 100000 (B++[x]) (hB.app (Bl.one hx)) (by rw[List.length_append];show B.length+1+ow<=_;omega) (by omega)
 rw[List.length_append] at this
 refine wr this ?_
 rw[show B++x::List.replicate ow (1-x)=B++[x]++List.replicate ow (1-x) by simp]
 rfl
structure CS where
  lo:Int
  hi:Int
  ow:Nat
  B:Li
def rep (s:CS):Int×Int×Int×Int×Li:=(s.lo,s.hi,(s.ow:Int),(s.B.length:Int),pbl s.B)
def wid:Nat->CS->CS
  | 0,s=>s
  | n+1,s =>
    if s.hi<32768 then wid n ⟨2*s.lo,2*s.hi+1,0,s.B++0::List.replicate s.ow 1⟩
    else if 32768<=s.lo then wid n ⟨2*(s.lo-32768),2*(s.hi-32768)+1,0,s.B++1::List.replicate s.ow 0⟩
    else if 16384<=s.lo/\s.hi<49152 then wid n ⟨2*(s.lo-16384),2*(s.hi-16384)+1,s.ow+1,s.B⟩
    else s
def Ju (lo hi:Int):Prop:=32768<=hi/\lo<32768/\(lo<16384\/49152<=hi)
def sz (s:CS):Nat:=s.B.length+s.ow
theorem gt {en:Bool} {B:Li} (hB:Bl B) {ow:Nat} (hl:B.length+ow<=90000) {x:Int} (hx:x=0\/x=1) (lo hi:Int):wU 100000 (32768*x) lo hi ow en B.length (pbl B)=some (.inr (0,((B.length+1+ow:Nat):Int),pbl (B++x::List.replicate ow (1-x)))):=by
 unfold wU
 refine wq (by rw[beq_eq_false_iff_ne];omega) ?_
 have e:wb .i64 (Int.tdiv (32768*x) 32768)=x:=by rcases hx with rfl|rfl<;>decide
 dsimp only
 rw[e]
 exact wr (Ji hB hx hl _ _ _) rfl
theorem HJ (n:Nat):∀(m:Nat) (s:CS),n<m->Rn s.lo s.hi->32769<=(s.hi-s.lo+1)*2^n->Bl s.B->sz s+n<=90000 →
  wS.l0 100000 false m s.lo s.hi s.ow s.B.length (pbl s.B)=some (rep (wid n s))/\Rn (wid n s).lo (wid n s).hi/\Ju (wid n s).lo (wid n s).hi/\Bl (wid n s).B/\sz (wid n s)<=sz s+n:=by
 induction n with
 | zero =>
  intro m s hm hr hw hB hs
  obtain ⟨m,rfl⟩:∃q,m=q+1:=⟨m-1,by omega⟩
  obtain ⟨r0,r1,r2⟩:=hr
  have hw:32769<=s.hi-s.lo+1:=by simpa using hw
  refine ⟨?_,⟨r0,r1,r2⟩,⟨by show 32768<=s.hi;omega,by show s.lo<_;omega,?_⟩,hB,Nat.le_refl _⟩
  ·show wS.r0 100000 false (wS.l0 100000 false m) _ _ _ _ _=_
   unfold wS.r0
   refine wr (x:=.inr (s.lo,s.hi,(s.ow:Int),(s.B.length:Int),pbl s.B)) ?_ rfl
   refine wq (decide_eq_false (by omega)) (wq (decide_eq_false (by omega)) (wq ?_ rfl))
   by_cases e:s.lo>=16384
   ·rw[decide_eq_true e,decide_eq_false (by omega)];rfl
   ·rw[decide_eq_false e];rfl
  ·show s.lo<16384\/49152<=s.hi
   omega
 | succ n ih =>
  intro m s hm hr hw hB hs
  obtain ⟨m,rfl⟩:∃q,m=q+1:=⟨m-1,by omega⟩
  have hrr:=hr
  obtain ⟨r0,r1,r2⟩:=hrr
  have hsz:s.B.length+s.ow+(n+1)<=90000:=hs
  have hw2:32769<=(s.hi-s.lo+1)*2*2^n:=by rw[Int.pow_succ,Int.mul_comm (2^n) 2,<-Int.mul_assoc] at hw;exact hw
  have hunf:wS.l0 100000 false (m+1) s.lo s.hi s.ow s.B.length (pbl s.B)=wS.r0 100000 false (wS.l0 100000 false m) s.lo s.hi s.ow s.B.length (pbl s.B):=rfl
  rw[hunf]
  unfold wS.r0 wid
  by_cases c1:s.hi<32768
  ·rw[if_pos c1]
   have hh:=ih m ⟨2*s.lo,2*s.hi+1,0,s.B++0::List.replicate s.ow 1⟩ (by omega) ⟨by show 0<=2*s.lo;omega,by show 2*s.lo<=2*s.hi+1;omega,by show 2*s.hi+1<=65535;omega⟩
    (by show 32769<=(2*s.hi+1-2*s.lo+1)*2^n;rw[show 2*s.hi+1-2*s.lo+1=(s.hi-s.lo+1)*2 by omega];exact hw2)
    (hB.app (fun y hy=>by rcases List.mem_cons.1 hy with q|q;exact .inl q;exact Bl.rep _ (.inr rfl) y q))
    (by show (s.B++0::List.replicate s.ow 1).length+0+n<=_;rw[List.length_append,List.length_cons,List.length_replicate];omega)
   refine ⟨?_,hh.2.1,hh.2.2.1,hh.2.2.2.1,Nat.le_trans hh.2.2.2.2 ?_⟩
   ·refine wr (x:=.inl 0) (wI (decide_eq_true c1) rfl) ?_
    refine wr (gt hB (by omega) (x:=0) (.inl rfl) _ _) ?_
    dsimp only
    rw[Int.sub_zero,Int.sub_zero,wT (x:=s.lo) (by omega) (by omega),wT (x:=s.hi) (by omega) (by omega),wT (x:=2*s.lo) (by omega) (by omega),wT (x:=2*s.hi) (by omega) (by omega),wT (x:=2*s.hi+1) (by omega) (by omega)]
    have h1:=hh.1
    have e:(s.B++0::List.replicate s.ow 1).length=s.B.length+1+s.ow:=by rw[List.length_append,List.length_cons,List.length_replicate];omega
    rw[e] at h1
    exact h1
   ·show (s.B++0::List.replicate s.ow 1).length+0+n<=s.B.length+s.ow+(n+1)
    rw[List.length_append,List.length_cons,List.length_replicate];omega
  ·rw[if_neg c1]
   by_cases c2:32768<=s.lo
   ·rw[if_pos c2]
    have hh:=ih m ⟨2*(s.lo-32768),2*(s.hi-32768)+1,0,s.B++1::List.replicate s.ow 0⟩ (by omega) ⟨by show 0<=2*(s.lo-32768);omega,by show 2*(s.lo-32768)<=2*(s.hi-32768)+1;omega,by show 2*(s.hi-32768)+1<=65535;omega⟩
     (by show 32769<=(2*(s.hi-32768)+1-2*(s.lo-32768)+1)*2^n;rw[show 2*(s.hi-32768)+1-2*(s.lo-32768)+1=(s.hi-s.lo+1)*2 by omega];exact hw2)
     (hB.app (fun y hy=>by rcases List.mem_cons.1 hy with q|q;exact .inr q;exact Bl.rep _ (.inl rfl) y q))
     (by show (s.B++1::List.replicate s.ow 0).length+0+n<=_;rw[List.length_append,List.length_cons,List.length_replicate];omega)
    refine ⟨?_,hh.2.1,hh.2.2.1,hh.2.2.2.1,Nat.le_trans hh.2.2.2.2 ?_⟩
    ·refine wr (x:=.inl 32768) (wq (decide_eq_false c1) (wI (decide_eq_true c2) rfl)) ?_
     refine wr (gt hB (by omega) (x:=1) (.inr rfl) _ _) ?_
     dsimp only
     rw[wT (x:=s.lo-32768) (by omega) (by omega),wT (x:=s.hi-32768) (by omega) (by omega),wT (x:=2*(s.lo-32768)) (by omega) (by omega),wT (x:=2*(s.hi-32768)) (by omega) (by omega),wT (x:=2*(s.hi-32768)+1) (by omega) (by omega)]
     have h1:=hh.1
     have e:(s.B++1::List.replicate s.ow 0).length=s.B.length+1+s.ow:=by rw[List.length_append,List.length_cons,List.length_replicate];omega
     rw[e] at h1
     exact h1
    ·show (s.B++1::List.replicate s.ow 0).length+0+n<=s.B.length+s.ow+(n+1)
     rw[List.length_append,List.length_cons,List.length_replicate];omega
   ·rw[if_neg c2]
    by_cases c3:16384<=s.lo/\s.hi<49152
    ·rw[if_pos c3]
     obtain ⟨c3,c4⟩:=c3
     have hh:=ih m ⟨2*(s.lo-16384),2*(s.hi-16384)+1,s.ow+1,s.B⟩ (by omega) ⟨by show 0<=2*(s.lo-16384);omega,by show 2*(s.lo-16384)<=2*(s.hi-16384)+1;omega,by show 2*(s.hi-16384)+1<=65535;omega⟩
      (by show 32769<=(2*(s.hi-16384)+1-2*(s.lo-16384)+1)*2^n;rw[show 2*(s.hi-16384)+1-2*(s.lo-16384)+1=(s.hi-s.lo+1)*2 by omega];exact hw2)
      hB (by show s.B.length+(s.ow+1)+n<=_;omega)
     refine ⟨?_,hh.2.1,hh.2.2.1,hh.2.2.2.1,Nat.le_trans hh.2.2.2.2 ?_⟩
     ·refine wr (x:=.inl 16384) (wq (decide_eq_false c1) (wq (decide_eq_false c2) (wI (by rw[decide_eq_true (show s.lo>=16384 from c3),decide_eq_true c4];rfl) rfl))) ?_
      refine wr (x:=.inl ((s.ow:Int)+1)) ?_ ?_
      ·unfold wU
       refine wI rfl ?_
       rw[kw1 (by omega) (by omega)]
      dsimp only
      rw[wT (x:=s.lo-16384) (by omega) (by omega),wT (x:=s.hi-16384) (by omega) (by omega),wT (x:=2*(s.lo-16384)) (by omega) (by omega),wT (x:=2*(s.hi-16384)) (by omega) (by omega),wT (x:=2*(s.hi-16384)+1) (by omega) (by omega)]
      exact hh.1
     ·show s.B.length+(s.ow+1)+n<=s.B.length+s.ow+(n+1)
      omega
    ·rw[if_neg c3]
     refine ⟨?_,hr,⟨by omega,by omega,by omega⟩,hB,Nat.le_add_right _ _⟩
     refine wr (x:=.inr (s.lo,s.hi,(s.ow:Int),(s.B.length:Int),pbl s.B)) ?_ rfl
     refine wq (decide_eq_false c1) (wq (decide_eq_false c2) (wq ?_ rfl))
     by_cases e:s.lo>=16384
     ·rw[decide_eq_true e,decide_eq_false (by omega)];rfl
     ·rw[decide_eq_false e];rfl
def CS.put (s:CS) (t:Li) (k:Nat):CS:=wid 16 ⟨nl t k s.lo s.hi,nl t (k+1) s.lo s.hi-1,s.ow,s.B⟩
structure Cok (s:CS):Prop where
  rn:Rn s.lo s.hi
  wd:Ju s.lo s.hi
  bl:Bl s.B
theorem Ju.w {lo hi:Int} (h:Ju lo hi) (r:Rn lo hi):16385<=hi-lo+1:=by
 obtain ⟨h1,h2,h3⟩:=h;omega
theorem Zn {s:CS} (h:Cok s) {t:Li} (ht:Tb t) {k:Nat} (hk:k<t.length) (hs:sz s+16<=90000):jL 100000 t k s.lo s.hi s.ow false s.B.length (pbl s.B)=some (rep (s.put t k))/\Cok (s.put t k)/\sz (s.put t k)<=sz s+16:=by
 have hw:=h.wd.w h.rn
 have hlt:=gg ht h.rn (by omega) hk
 have q1:=YV ht h.rn (show k<=t.length by omega)
 have q2:=YV ht h.rn (show k+1<=t.length by omega)
 obtain ⟨r0,r1,r2⟩:=h.rn
 have hh:=HJ 16 100000 ⟨nl t k s.lo s.hi,nl t (k+1) s.lo s.hi-1,s.ow,s.B⟩ (by omega) ⟨by show 0<=nl t k s.lo s.hi;omega,by show nl t k s.lo s.hi<=nl t (k+1) s.lo s.hi-1;omega,by show nl t (k+1) s.lo s.hi-1<=_;omega⟩
  (by show 32769<=(nl t (k+1) s.lo s.hi-1-nl t k s.lo s.hi+1)*2^16;omega) h.bl hs
 have ha0:flo t t.length≠0:=by have:=jc ht (show 0<=t.length by omega) (Nat.le_refl _);have e:flo t 0=0:=rfl;have:=ht.l2;omega
 refine ⟨?_,⟨hh.2.1,hh.2.2.1,hh.2.2.2.1⟩,hh.2.2.2.2⟩
 refine wq rfl (wr (Yn ht) (wq ?_ (wr (Z9 ht h.rn hk _ _ _ _) (wr (wr hh.1 rfl) rfl))))
 rw[decide_eq_false (by omega),decide_eq_false (by omega),beq_eq_false_iff_ne.2 ha0];rfl
def CS.fin (s:CS):Li:=if s.lo<16384 then s.B++0::List.replicate (s.ow+1) 1 else s.B++1::List.replicate (s.ow+1) 0
theorem Qv (s:CS):s.fin.length=sz s+2:=by
 unfold CS.fin sz;split<;>rw[List.length_append,List.length_cons,List.length_replicate]<;>omega
theorem gA {s:CS} (h:Bl s.B):Bl s.fin:=by
 unfold CS.fin;split
 ·exact h.app (fun y hy=>by rcases List.mem_cons.1 hy with q|q;exact .inl q;exact Bl.rep _ (.inr rfl) y q)
 ·exact h.app (fun y hy=>by rcases List.mem_cons.1 hy with q|q;exact .inr q;exact Bl.rep _ (.inl rfl) y q)
theorem gx {s:CS} (h:Cok s) (hs:sz s+16<=90000):kz 100000 s.lo s.hi s.ow false s.B.length (pbl s.B)=some (0,(s.fin.length:Int),pbl s.fin):=by
 have hsz:s.B.length+s.ow+16<=90000:=hs
 refine wq rfl ?_
 dsimp only
 rw[kw1 (by omega) (by omega)]
 have e:((s.ow:Int)+1)=((s.ow+1:Nat):Int):=by omega
 rw[e,Qv]
 have e2:sz s+2=s.B.length+1+(s.ow+1):=by unfold sz;omega
 rw[e2]
 unfold CS.fin
 by_cases c:s.lo<16384
 ·rw[if_pos c]
  refine wr (wI (decide_eq_true c) (wr (Ji h.bl (.inl rfl) (by omega) _ _ _) rfl)) rfl
 ·rw[if_neg c]
  refine wr (wq (decide_eq_false c) (wr (Ji h.bl (.inr rfl) (by omega) _ _ _) rfl)) rfl
def CS.new:CS:=⟨0,65535,0,[]⟩
theorem gP:Cok CS.new:=⟨⟨by decide,by decide,by decide⟩,⟨by decide,by decide,.inl (by decide)⟩,fun x hx=>by cases hx⟩
end Go.Fo
