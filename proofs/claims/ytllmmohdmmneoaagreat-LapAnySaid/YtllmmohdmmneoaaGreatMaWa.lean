/- Bytes as bits: a bit set,a bit read. -/
import Derived.Test.YtllmmohdmmneoaaGreatMaOk
import Derived.Test.YtllmmohdmmneoaaGreatJ4
namespace Go.Fo
set_option maxRecDepth 6000
def upd (g:Nat->Int) (p:Nat) (x:Int):Nat->Int:=fun i=>if i=p then x else g i
theorem QU (g:Nat->Int) (p:Nat) (x:Int):upd g p x p=x:=if_pos rfl
theorem Zj {g:Nat->Int} {p i:Nat} {x:Int} (h:i≠p):upd g p x i=g i:=if_neg h
theorem J0 {g:Nat->Int} {p:Nat} {x:Int} (h:g p=x):upd g p x=g:=by
 funext i;by_cases e:i=p
 ·rw[e,QU,h]
 ·rw[Zj e]
def B01 (g:Nat->Int):Prop:=∀i,g i=0\/g i=1
theorem B01.bd {g:Nat->Int} (h:B01 g) (i:Nat):0<=g i/\g i<=1:=by rcases h i with e|e<;>rw[e]<;>decide
theorem B01.upd {g:Nat->Int} (h:B01 g) {p:Nat} {x:Int} (hx:x=0\/x=1):B01 (upd g p x):=fun i=>by
 by_cases e:i=p
 ·rw[e,QU];exact hx
 ·rw[Zj e];exact h i
def fby (g:Nat->Int) (j:Nat):Int:=128*g (8*j)+64*g (8*j+1)+32*g (8*j+2)+16*g (8*j+3)+8*g (8*j+4)+4*g (8*j+5)+2*g (8*j+6)+g (8*j+7)
def pf (n:Nat) (g:Nat->Int):Li:=(List.range n).map (fby g)
theorem kH (n:Nat) (g:Nat->Int):(pf n g).length=n:=by simp[pf]
theorem Ue {n:Nat} {g:Nat->Int} {j:Nat} (h:j<n):Kd.nth (.int .u8) (pf n g) j=fby g j:=by
 show (pf n g).getD j 0=_
 unfold pf
 rw[List.getD_eq_getElem?_getD,List.getElem?_eq_getElem (by simpa using h)]
 simp
theorem Vs {g:Nat->Int} (h:B01 g) (j:Nat):0<=fby g j/\fby g j<256:=by
 have h0:=h.bd (8*j);have h1:=h.bd (8*j+1);have h2:=h.bd (8*j+2);have h3:=h.bd (8*j+3);have h4:=h.bd (8*j+4);have h5:=h.bd (8*j+5);have h6:=h.bd (8*j+6);have h7:=h.bd (8*j+7)
 unfold fby;omega
theorem t8 {t:Nat} (h:t<8):t=0\/t=1\/t=2\/t=3\/t=4\/t=5\/t=6\/t=7:=by omega
theorem XR {g:Nat->Int} (h:B01 g) (j:Nat) (t:Nat) (ht:t<8):fby g j/2^(7-t)%2=g (8*j+t):=by
 have h0:=h.bd (8*j);have h1:=h.bd (8*j+1);have h2:=h.bd (8*j+2);have h3:=h.bd (8*j+3);have h4:=h.bd (8*j+4);have h5:=h.bd (8*j+5);have h6:=h.bd (8*j+6);have h7:=h.bd (8*j+7)
 unfold fby
 rcases t8 ht with rfl|rfl|rfl|rfl|rfl|rfl|rfl|rfl<;>simp only[Nat.add_zero,Nat.reduceSub,Int.reducePow]<;>omega
theorem orB:((List.range 256).all fun y=>(List.range 8).all fun t=>decide (y/2^(7-t)%2≠0)||decide (kor .u8 (y:Int) (kshr .u8 128 (t:Int))=((y+2^(7-t):Nat):Int)))=true:=by kernel_rfl
theorem Mh {y:Int} {t:Nat} (h0:0<=y) (h1:y<256) (ht:t<8) (hd:y/2^(7-t)%2=0):kor .u8 y (kshr .u8 128 (t:Int))=y+2^(7-t):=by
 have h:=List.all_eq_true.1 (List.all_eq_true.1 orB y.toNat (List.mem_range.2 (by omega))) t (List.mem_range.2 ht)
 rw[Int.toNat_of_nonneg h0] at h
 rcases Bool.or_eq_true _ _▸h with h|h
 ·exfalso
  have h:=of_decide_eq_true h
  apply h
  have:((y.toNat/2^(7-t)%2:Nat):Int)=0:=by push_cast;rw[Int.toNat_of_nonneg h0];exact hd
  exact_mod_cast this
 ·have h:=of_decide_eq_true h
  rw[h];push_cast;rw[Int.toNat_of_nonneg h0]
theorem Mi:((List.range 256).all fun y=>(List.range 8).all fun t=>(kand .u8 (y:Int) (kshr .u8 128 (t:Int)) != 0)==(decide (y/2^(7-t)%2=1)))=true:=by kernel_rfl
theorem HK {y:Int} {t:Nat} (h0:0<=y) (h1:y<256) (ht:t<8):(kand .u8 y (kshr .u8 128 (t:Int)) != 0)=decide (y/2^(7-t)%2=1):=by
 have h:=List.all_eq_true.1 (List.all_eq_true.1 Mi y.toNat (List.mem_range.2 (by omega))) t (List.mem_range.2 ht)
 rw[Int.toNat_of_nonneg h0] at h
 rw[beq_iff_eq.1 h]
 apply decide_eq_decide.2
 constructor
 ·intro e
  have:((y.toNat/2^(7-t)%2:Nat):Int)=1:=by exact_mod_cast e
  push_cast at this;rwa[Int.toNat_of_nonneg h0] at this
 ·intro e
  have:((y.toNat/2^(7-t)%2:Nat):Int)=1:=by push_cast;rwa[Int.toNat_of_nonneg h0]
  exact_mod_cast this
theorem Mf:((List.range 8).all fun t=>kshl .u8 1 (t:Int)==kshr .u8 128 (((7-t:Nat)):Int))=true:=by kernel_rfl
theorem HW {t:Nat} (ht:t<8):kshl .u8 1 (t:Int)=kshr .u8 128 ((7-t:Nat):Int):=beq_iff_eq.1 (List.all_eq_true.1 Mf t (List.mem_range.2 ht))
theorem V1 {n:Nat} {g:Nat->Int} (h:B01 g) {p:Nat} (hp:p<8*n) (hz:g p=0):(pf n g).set (p/8) (kor .u8 (fby g (p/8)) (kshr .u8 128 ((p%8:Nat):Int)))=pf n (upd g p 1):=by
 have hr:=Vs h (p/8)
 have ht:p%8<8:=Nat.mod_lt _ (by decide)
 have hb:=XR h (p/8) (p%8) ht
 rw[show 8*(p/8)+p%8=p by omega,hz] at hb
 rw[Mh hr.1 hr.2 ht hb]
 apply List.ext_getElem
 ·simp[pf]
 ·intro k g1 g2
  have hk:k<n:=by simpa [pf] using g2
  rw[List.getElem_set]
  simp only[pf,List.getElem_map,List.getElem_range]
  by_cases e:p/8=k
  ·rw[if_pos e,<-e]
   have hq:=t8 ht
   have ha:∀t,t<8->upd g p 1 (8*(p/8)+t)=if t=p%8 then 1 else g (8*(p/8)+t):=fun t h8=>by
    unfold upd
    by_cases q:t=p%8
    ·rw[if_pos q,if_pos (by omega)]
    ·rw[if_neg q,if_neg (by omega)]
   have hz':g (8*(p/8)+p%8)=0:=by rw[show 8*(p/8)+p%8=p by omega];exact hz
   unfold fby
   rw[show upd g p 1 (8*(p/8))=_ from ha 0 (by decide),ha 1 (by decide),ha 2 (by decide),ha 3 (by decide),ha 4 (by decide),ha 5 (by decide),ha 6 (by decide),ha 7 (by decide)]
   rcases hq with e|e|e|e|e|e|e|e<;>rw[e] at hz' ⊢<;>simp only[Nat.reduceSub,Int.reducePow,if_true,if_false,Nat.reduceEqDiff,Nat.add_zero,Nat.zero_ne_one,Nat.one_ne_zero,Nat.reduceEqDiff,ite_true,ite_false,reduceIte] at hz' ⊢<;>rw[hz']<;>omega
  ·rw[if_neg e]
   have hs:∀t,t<8->upd g p 1 (8*k+t)=g (8*k+t):=fun t ht=>Zj (by omega)
   unfold fby
   rw[show upd g p 1 (8*k)=g (8*k) from hs 0 (by omega),hs 1 (by omega),hs 2 (by omega),hs 3 (by omega),hs 4 (by omega),hs 5 (by omega),hs 6 (by omega),hs 7 (by omega)]
def bof (b:Li) (i:Nat):Int:=Kd.nth (.int .u8) b (i/8)/2^(7-i%8)%2
theorem gF (b:Li):B01 (bof b):=fun i=>by unfold bof;omega
def U8 (b:Li):Prop:=∀x∈b,0<=x/\x<256
theorem HG {b:Li} (h:U8 b):pf b.length (bof b)=b:=by
 apply List.ext_getElem
 ·simp[pf]
 ·intro k g1 g2
  simp only[pf,List.getElem_map,List.getElem_range]
  have hx:=h b[k] (List.getElem_mem g2)
  have e:∀t,t<8->bof b (8*k+t)=b[k]/2^(7-t)%2:=fun t ht=>by
   unfold bof
   rw[show (8*k+t)/8=k by omega,show (8*k+t)%8=t by omega]
   show (b.getD k 0)/_%2=_
   rw[List.getD_eq_getElem?_getD,List.getElem?_eq_getElem g2];rfl
  unfold fby
  rw[show bof b (8*k)=_ from e 0 (by decide),e 1 (by decide),e 2 (by decide),e 3 (by decide),e 4 (by decide),e 5 (by decide),e 6 (by decide),e 7 (by decide)]
  simp only[Nat.reduceSub,Int.reducePow]
  omega
theorem JZ {s t:Nat} (h:s<=t):(2:Int)^s<=2^t:=by
 have:=Int.ofNat_le.2 (Nat.pow_le_pow_right (n:=2) (by decide) h)
 rwa[Int.natCast_pow,Int.natCast_pow] at this
theorem Vt (s:Nat):(0:Int)<2^s:=Int.pow_pos (by decide)
theorem Vd {x:Int} (h0:0<=x) (h1:x<4294967296):wb .u32 x=x:=by rw[Hb];omega
theorem gh {x:Int} (h0:0<=x) (h1:x<4294967296):kand .u32 x 1=x%2:=by
 have h:=KD 32 x 1 (by decide)
 unfold kand
 show wb .u32 ((BitVec.ofInt 32 x &&& BitVec.ofInt 32 1).toNat:Int)=_
 have h:((BitVec.ofInt 32 x &&& BitVec.ofInt 32 1).toNat:Int)=x%2:=h
 rw[h];exact Vd (by omega) (by omega)
theorem Ub {v:Int} {i:Nat} (hi:i<32):kshr .u32 v (i:Int)=v/2^i:=by
 unfold kshr
 rw[show min (Int.toNat (i:Int)) IntKind.u32.bits=i by show min i 32=i;omega]
 exact Int.fdiv_eq_ediv_of_nonneg _ (Int.pow_nonneg (by decide))
theorem Mq {e l:Int} {a:Nat} (ha:a<32) (h0:0<=e) (h1:e<2^a) (hl:l=0\/l=1):kor .u32 e (kshl .u32 l (a:Int))=e+l*2^a:=by
 have hp:=JZ (show a<=31 by omega)
 have hpp:=Vt a
 have e31:(2:Int)^31=2147483648:=by decide
 have hs:kshl .u32 l (a:Int)=l*2^a:=by
  unfold kshl
  rw[show min (Int.toNat (a:Int)) IntKind.u32.bits=a by show min a 32=a;omega]
  have:=Vd (x:=l*2^a) (by rcases hl with e|e<;>rw[e]<;>omega) (by rcases hl with e|e<;>rw[e]<;>omega)
  exact this
 rw[hs]
 have key:∀(x y:Nat),x<4294967296->y<4294967296->x ||| y<4294967296->kor .u32 (x:Int) (y:Int)=((x ||| y:Nat):Int):=fun x y hx hy hxy=>by
  unfold kor
  show wb .u32 ((BitVec.ofInt 32 (x:Int) ||| BitVec.ofInt 32 (y:Int)).toNat:Int)=_
  have e1:BitVec.ofInt 32 (x:Int)=BitVec.ofNat 32 x:=by rw[<-BitVec.ofInt_natCast]
  have e2:BitVec.ofInt 32 (y:Int)=BitVec.ofNat 32 y:=by rw[<-BitVec.ofInt_natCast]
  rw[e1,e2,BitVec.toNat_or,BitVec.toNat_ofNat,BitVec.toNat_ofNat,Nat.mod_eq_of_lt hx,Nat.mod_eq_of_lt hy]
  exact Vd (by omega) (by omega)
 obtain ⟨x,rfl⟩:∃x:Nat,e=x:=⟨e.toNat,by omega⟩
 have hx:x<2^a:=by
  have h:((x:Nat):Int)<((2^a:Nat):Int):=by rw[Int.natCast_pow];exact h1
  exact_mod_cast h
 have hx2:2^a<=2147483648:=Nat.pow_le_pow_right (n:=2) (by decide) (show a<=31 by omega)
 rcases hl with rfl|rfl
 ·rw[Int.zero_mul,Int.add_zero]
  have:=key x 0 (by omega) (by omega) (by simp;omega)
  simpa using this
 ·rw[Int.one_mul]
  have hor:x ||| 2^a=x+2^a:=by
   have:=Nat.two_pow_add_eq_or_of_lt hx 1
   rw[Nat.mul_one] at this
   rw[Nat.or_comm,<-this];omega
  have:=key x (2^a) (by omega) (by omega) (by rw[hor];omega)
  rw[hor] at this
  push_cast at this ⊢
  exact this
end Go.Fo
