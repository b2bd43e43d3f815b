/- Steps are put,exactly. -/
import Derived.Test.YtllmmohdmmneoaaGreatMaWe
namespace Go.Fo
set_option maxRecDepth 6000
theorem Mj:((List.range 256).all fun e=>sbyte KS e==(((if e=0 then 0 else Nat.log2 e+1:Nat)):Int))=true:=by kernel_rfl
theorem gb {e:Nat} (h0:1<=e) (h1:e<256):sbyte KS e=((Nat.log2 e+1:Nat):Int):=by
 have:=beq_iff_eq.1 (List.all_eq_true.1 Mj e (List.mem_range.2 h1))
 rw[this,if_neg (by omega)]
theorem VH {v:Nat} (h:256<=v):Nat.log2 v=Nat.log2 (v/256)+8:=by
 rw[Nat.log2_eq_iff (by omega)]
 have h1:=Nat.log2_self_le (show v/256≠0 by omega)
 have h2:=Nat.lt_log2_self (n:=v/256)
 generalize Nat.log2 (v/256)=k at *
 rw[Nat.pow_add,show k+8+1=(k+1)+8 by omega,Nat.pow_add (m:=k+1)]
 have e8:(2:Nat)^8=256:=by decide
 rw[e8]
 constructor
 ·have:=Nat.div_mul_le_self v 256
  have:=Nat.mul_le_mul_right 256 h1
  omega
 ·have:=Nat.div_add_mod v 256
  have:=Nat.mod_lt v (show 0<256 by decide)
  have:v/256+1<=2^(k+1):=h2
  have:=Nat.mul_le_mul_right 256 this
  omega
theorem Vc {v:Nat} (h0:1<=v) (h1:v<65536):kY 100000 v=some ((Nat.log2 v+1:Nat):Int):=by
 refine wr (x:=((Nat.log2 v+1:Nat):Int)) ?_ rfl
 unfold jH
 have c0:decide ((v:Int)>=4294967296)=false:=decide_eq_false (by omega)
 have c1:decide ((v:Int)>=65536)=false:=decide_eq_false (by omega)
 refine wr (x:=((v:Int),(0:Int))) (wq c0 rfl) (wr (x:=((v:Int),(0:Int))) (wq c1 rfl) ?_)
 have e256:(KS.size:Int)=256:=rfl
 by_cases h:v<256
 ·refine wr (x:=((v:Int),(0:Int))) (wq (decide_eq_false (by omega)) rfl) ?_
  have e:wb .u8 (v:Int)=v:=by rw[gr];omega
  dsimp only
  rw[e,show Int.toNat (v:Int)=v by omega,gb h0 h,e256]
  have:=Nat.lt_log2_self (n:=v)
  have hb:Nat.log2 v<100:=by
   rcases Nat.lt_or_ge (Nat.log2 v) 100 with q|q
   ·exact q
   ·have:=Nat.log2_self_le (show v≠0 by omega)
    have:=Nat.pow_le_pow_right (n:=2) (by decide) q
    have e:(2:Nat)^100>65536:=by decide
    omega
  refine zp ⟨by omega,by omega⟩ ?_
  rw[wT (x:=((Nat.log2 v+1:Nat):Int)) (by omega) (by omega),Int.zero_add,wT (by omega) (by omega)]
 ·refine wr (x:=(((v/256:Nat):Int),(8:Int))) (wI (decide_eq_true (by omega)) ?_) ?_
  ·have e:kshr .u64 (v:Int) 8=((v/256:Nat):Int):=by
    unfold kshr
    show Int.fdiv (v:Int) (2^8)=_
    rw[Int.fdiv_eq_ediv_of_nonneg _ (by decide)]
    show (v:Int)/256=_
    omega
   dsimp only
   rw[e];rfl
  ·have e:wb .u8 ((v/256:Nat):Int)=((v/256:Nat):Int):=by rw[gr];omega
   dsimp only
   rw[e,show Int.toNat ((v/256:Nat):Int)=v/256 by omega,gb (by omega) (by omega),e256]
   have hb:Nat.log2 (v/256)<100:=by
    rcases Nat.lt_or_ge (Nat.log2 (v/256)) 100 with q|q
    ·exact q
    ·have:=Nat.log2_self_le (show v/256≠0 by omega)
     have:=Nat.pow_le_pow_right (n:=2) (by decide) q
     have e:(2:Nat)^100>65536:=by decide
     omega
   refine zp ⟨by omega,by omega⟩ ?_
   rw[wT (x:=((Nat.log2 (v/256)+1:Nat):Int)) (by omega) (by omega),wT (x:=8+((Nat.log2 (v/256)+1:Nat):Int)) (by omega) (by omega),VH (v:=v) (by omega)]
   congr 1;omega
theorem QX {v:Nat} (h0:1<=v) (h1:v<32768):Nat.log2 v<=14:=by
 have:=Nat.log2_self_le (show v≠0 by omega)
 rcases Nat.lt_or_ge 14 (Nat.log2 v) with q|q
 ·have:=Nat.pow_le_pow_right (n:=2) (by decide) q
  have e:(2:Nat)^(14+1)=32768:=by decide
  omega
 ·exact q
abbrev Sym:=Li×Nat
def pal (s:CS) (l:List Sym):CS:=l.foldl (fun s x=>s.put x.1 x.2) s
theorem KI (s:CS) (x:Sym) (l:List Sym):pal s (x::l)=pal (s.put x.1 x.2) l:=rfl
theorem Kf (s:CS) (x:Sym):pal s [x]=s.put x.1 x.2:=rfl
theorem W2 (s:CS) (l k:List Sym):pal s (l++k)=pal (pal s l) k:=List.foldl_append
def Sy (l:List Sym):Prop:=∀x∈l,Tb x.1/\x.2<x.1.length
theorem JY {l:List Sym}:∀{s:CS},Sy l->Cok s->sz s+16*l.length<=89000->Cok (pal s l)/\sz (pal s l)<=sz s+16*l.length:=by
 induction l with
 | nil=>intro s _ h _;exact ⟨h,Nat.le_refl _⟩
 | cons x l ih =>
  intro s hy h hs
  rw[List.length_cons] at hs ⊢
  have hx:=hy x (List.mem_cons_self ..)
  obtain ⟨_,h1,h2⟩:=Zn h hx.1 hx.2 (by omega)
  have:=ih (s:=s.put x.1 x.2) (fun y q=>hy y (List.mem_cons_of_mem _ q)) h1 (by omega)
  exact ⟨this.1,Nat.le_trans this.2 (by omega)⟩
theorem ZR {s:CS} (h:Cok s) {t:Li} (ht:Tb t) {k:Nat} (hk:k<t.length) (hs:sz s+16<=90000):kP 100000 t k s.lo s.hi s.ow false s.B.length (pbl s.B)=some (rep (s.put t k)):=wr (Zn h ht hk hs).1 rfl
def bsy (v:Nat):Nat->List Sym
  | 0=>[]
  | j+1=>(evn,v/2^j%2)::bsy v j
theorem u9 (v j:Nat):(bsy v j).length=j:=by induction j with
 | zero=>rfl
 | succ j ih=>show _+1=_;rw[ih]
theorem Hs (v j:Nat):Sy (bsy v j):=by induction j with
 | zero=>intro x hx;cases hx
 | succ j ih =>
  intro x hx
  rcases List.mem_cons.1 hx with q|q
  ·rw[q];exact ⟨xZ,by show v/2^j%2<2;omega⟩
  ·exact ih x q
def ones (k:Nat):List Sym:=List.replicate k (evn,1)
theorem XW (k:Nat):Sy (ones k):=fun x hx=>by rw[(List.mem_replicate.1 hx).2];exact ⟨xZ,by show 1<2;decide⟩
def vsy (v:Nat):List Sym:=ones (Nat.log2 v)++(evn,0)::bsy v (Nat.log2 v)
theorem Sy.app {l k:List Sym} (h:Sy l) (g:Sy k):Sy (l++k):=fun x hx=>by
 rcases List.mem_append.1 hx with q|q
 ·exact h x q
 ·exact g x q
theorem Sy.cons {x:Sym} {l:List Sym} (h:Tb x.1/\x.2<x.1.length) (g:Sy l):Sy (x::l):=fun y hy=>by
 rcases List.mem_cons.1 hy with q|q
 ·rw[q];exact h
 ·exact g y q
theorem H1:Tb ((evn,0):Sym).1/\((evn,0):Sym).2<((evn,0):Sym).1.length:=⟨xZ,by show 0<2;decide⟩
theorem gH (v:Nat):Sy (vsy v):=(XW _).app (Sy.cons H1 (Hs _ _))
theorem Yz (v:Nat):(vsy v).length=2*Nat.log2 v+1:=by
 unfold vsy ones;rw[List.length_append,List.length_replicate,List.length_cons,u9];omega
theorem HP {x l:Int} (h0:0<=x) (h1:x<1000000) (hl:l=0\/l=1):kor .i64 (kshl .i64 x 1) l=2*x+l:=by
 have hs:kshl .i64 x 1=2*x:=by
  unfold kshl
  show wb .i64 (x*2^1)=_
  rw[show x*2^1=2*x by omega]
  exact wT (by omega) (by omega)
 rw[hs]
 obtain ⟨n,rfl⟩:∃n:Nat,x=n:=⟨x.toNat,by omega⟩
 have key:∀(a b:Nat),a<4294967296->b<4294967296->a ||| b<4294967296->kor .i64 (a:Int) (b:Int)=((a ||| b:Nat):Int):=fun a b ha hb hab=>by
  unfold kor
  show wb .i64 ((BitVec.ofInt 64 (a:Int) ||| BitVec.ofInt 64 (b:Int)).toNat:Int)=_
  have e1:BitVec.ofInt 64 (a:Int)=BitVec.ofNat 64 a:=by rw[<-BitVec.ofInt_natCast]
  have e2:BitVec.ofInt 64 (b:Int)=BitVec.ofNat 64 b:=by rw[<-BitVec.ofInt_natCast]
  rw[e1,e2,BitVec.toNat_or,BitVec.toNat_ofNat,BitVec.toNat_ofNat,Nat.mod_eq_of_lt (by omega),Nat.mod_eq_of_lt (by omega)]
  exact wT (by omega) (by omega)
 rcases hl with rfl|rfl
 ·have:=key (2*n) 0 (by omega) (by omega) (by simp;omega)
  rw[Nat.or_zero] at this
  push_cast at this ⊢;rw[this];omega
 ·have ho:(2*n) ||| 1=2*n+1:=by
   have:=Nat.two_pow_add_eq_or_of_lt (i:=1) (b:=1) (by decide) n
   rw[Nat.pow_one] at this;exact this.symm
  have:=key (2*n) 1 (by omega) (by omega) (by rw[ho];omega)
  rw[ho] at this
  push_cast at this ⊢;exact this
theorem YL {v:Nat} (h0:1<=v) (h1:v<32768) {s:CS} (h:Cok s) (hs:sz s+600<=89000):wt 100000 v s.lo s.hi s.ow false s.B.length (pbl s.B)=some ((v:Int),0,rep (pal s (vsy v))):=by
 have hk:=QX h0 h1
 have h2:=Nat.lt_log2_self (n:=v)
 have h3:=Nat.log2_self_le (show v≠0 by omega)
 have eu:wb .u64 (v:Int)=v:=by rw[UR];omega
 refine wr (by rw[eu];exact Vc h0 (by omega)) ?_
 unfold vsy
 generalize Nat.log2 v=k at *
 dsimp only
 rw[wT (x:=((k+1:Nat):Int)-1) (by omega) (by omega),show ((k+1:Nat):Int)-1=(k:Int) by omega]
 have key:∀(j m:Nat) (s:CS),j<m->j<=k->Cok s->sz s+16*(j+1)<=89000->wt.l1 100000 v k false m ((k-j:Nat):Int) s.lo s.hi s.ow s.B.length (pbl s.B)=some (.inl ((k:Int),rep (pal s (ones j++[(evn,0)])))):=by
  intro j
  induction j with
  | zero =>
   intro m s hm _ hc hsz
   obtain ⟨m,rfl⟩:∃q,m=q+1:=⟨m-1,by omega⟩
   show wt.r1 100000 v k false (wt.l1 100000 v k false m) ((k-0:Nat):Int) s.lo s.hi s.ow s.B.length (pbl s.B)=_
   unfold wt.r1
   refine wr (x:=0) (wq (decide_eq_false (by omega)) rfl) (wr rfl (wr (ZR (k:=0) hc xZ (by decide) (by omega)) (wI rfl ?_)))
   rw[show ones 0++[((evn,0):Sym)]=[(evn,0)] from rfl,Kf]
   rfl
  | succ j ih =>
   intro m s hm hj hc hsz
   obtain ⟨m,rfl⟩:∃q,m=q+1:=⟨m-1,by omega⟩
   show wt.r1 100000 v k false (wt.l1 100000 v k false m) ((k-(j+1):Nat):Int) s.lo s.hi s.ow s.B.length (pbl s.B)=_
   unfold wt.r1
   obtain ⟨p1,p2,p3⟩:=Zn hc xZ (k:=1) (by decide) (by omega)
   refine wr (x:=1) (wI (decide_eq_true (by omega)) rfl) (wr rfl (wr (ZR (k:=1) hc xZ (by decide) (by omega)) (wq rfl ?_)))
   dsimp only
   rw[kw1 (by omega) (by omega),show ((k-(j+1):Nat):Int)+1=((k-j:Nat):Int) by omega]
   refine wq (by rw[beq_eq_false_iff_ne];omega) ?_
   rw[show ones (j+1)++[((evn,0):Sym)]=(evn,1)::(ones j++[(evn,0)]) from rfl,KI]
   exact ih m _ (by omega) (by omega) p2 (by omega)
 have hy1:Sy (ones k++[(evn,0)]):=(XW k).app (Sy.cons H1 (fun x hx=>by cases hx))
 have hl1:(ones k++[((evn,0):Sym)]).length=k+1:=by unfold ones;rw[List.length_append,List.length_replicate];rfl
 have ho:=JY hy1 h (by rw[hl1];omega)
 rw[hl1] at ho
 have hk1:=key k 100000 s (by omega) (Nat.le_refl _) h (by omega)
 rw[Nat.sub_self] at hk1
 refine wr hk1 ?_
 rw[show ones k++(evn,0)::bsy v k=(ones k++[(evn,0)])++bsy v k by simp,W2 s (ones k++[(evn,0)]) (bsy v k)]
 generalize pal s (ones k++[(evn,0)])=s2 at *
 have key2:∀(j m:Nat) (s:CS),j<m->j<=k->Cok s->sz s+16*j<=89000->wt.l0 100000 v false m ((v/2^j:Nat):Int) ((j:Int)-1) s.lo s.hi s.ow s.B.length (pbl s.B)=some ((v:Int),rep (pal s (bsy v j))):=by
  intro j
  induction j with
  | zero =>
   intro m s hm _ hc _
   obtain ⟨m,rfl⟩:∃q,m=q+1:=⟨m-1,by omega⟩
   show wt.r0 100000 v false (wt.l0 100000 v false m) ((v/2^0:Nat):Int) (((0:Nat):Int)-1) s.lo s.hi s.ow s.B.length (pbl s.B)=_
   unfold wt.r0
   refine wq (decide_eq_false (by omega)) ?_
   rw[Nat.pow_zero,Nat.div_one];rfl
  | succ j ih =>
   intro m s hm hj hc hsz
   obtain ⟨m,rfl⟩:∃q,m=q+1:=⟨m-1,by omega⟩
   show wt.r0 100000 v false (wt.l0 100000 v false m) ((v/2^(j+1):Nat):Int) (((j+1:Nat):Int)-1) s.lo s.hi s.ow s.B.length (pbl s.B)=_
   unfold wt.r0
   have hbit:v/2^j%2<2:=Nat.mod_lt _ (by decide)
   obtain ⟨p1,p2,p3⟩:=Zn hc xZ (k:=v/2^j%2) hbit (by omega)
   have ej:((j+1:Nat):Int)-1=(j:Int):=by omega
   have esh:kand .i64 (kshr .i64 (v:Int) (j:Int)) 1=((v/2^j%2:Nat):Int):=by
    have e1:kshr .i64 (v:Int) (j:Int)=((v/2^j:Nat):Int):=by
     unfold kshr
     rw[show min (Int.toNat (j:Int)) IntKind.i64.bits=j by show min j 64=j;omega,Int.fdiv_eq_ediv_of_nonneg _ (Int.pow_nonneg (by decide))]
     push_cast;rfl
    rw[e1]
    have:=ZW ((v/2^j:Nat):Int) 1 (by decide)
    have e2:((2:Int)^1-1)=1:=by decide
    rw[e2] at this;rw[this];push_cast;rfl
   rw[ej]
   refine wI (decide_eq_true (by omega)) (wr rfl ?_)
   dsimp only
   rw[esh]
   refine zp (by omega) (wr (ZR (k:=v/2^j%2) hc xZ hbit (by omega)) ?_)
   have hv2:v/2^(j+1)<=v:=Nat.div_le_self _ _
   dsimp only[rep]
   have ho:kor .i64 (kshl .i64 ((v/2^(j+1):Nat):Int) 1) ((v/2^j%2:Nat):Int)=((v/2^j:Nat):Int):=by
    have hd:2*(v/2^(j+1))+v/2^j%2=v/2^j:=by
     have:v/2^(j+1)=v/2^j/2:=by rw[Nat.pow_succ,Nat.div_div_eq_div_mul]
     omega
    generalize v/2^(j+1)=y at *
    generalize v/2^j%2=z at *
    rw[<-hd,HP (x:=(y:Int)) (l:=(z:Int)) (by omega) (by omega) (by omega)]
    omega
   rw[ho,wT (x:=(j:Int)-1) (by omega) (by omega),show bsy v (j+1)=(evn,v/2^j%2)::bsy v j from rfl,KI]
   exact ih m _ (by omega) (by omega) p2 (by omega)
 have hk2:=key2 k 100000 s2 (by omega) (Nat.le_refl _) ho.1 (by omega)
 dsimp only[rep]
 rw[wT (x:=(k:Int)-1) (by omega) (by omega)]
 have e1:v/2^k=1:=by
  have h5:v<2^k*2:=by rw[<-Nat.pow_succ];exact h2
  have hp:0<2^k:=Nat.pow_pos (by decide)
  have a1:1<=v/2^k:=(Nat.le_div_iff_mul_le hp).2 (by omega)
  have a2:v/2^k<2:=(Nat.div_lt_iff_lt_mul hp).2 (by omega)
  omega
 rw[e1] at hk2
 exact wr hk2 rfl
def lsy (c n:Int):List Sym:=(tbl c,min n.natAbs 14)::((if 14<=n.natAbs then vsy (n.natAbs-13) else [])++(if n=0 then [] else [(evn,if n<0 then 1 else 0)]))
theorem HM (n:Int):Sy (if n=0 then ([]:List Sym) else [(evn,if n<0 then 1 else 0)]):=by
 split
 ·intro x hx;cases hx
 ·exact Sy.cons ⟨xZ,by show (if n<0 then 1 else 0)<2;split<;>omega⟩ (fun x hx=>by cases hx)
theorem hJ (n:Int):Sy (if 14<=n.natAbs then vsy (n.natAbs-13) else []):=by
 split
 ·exact gH _
 ·intro x hx;cases hx
theorem Hz (c n:Int):Sy (lsy c n):=Sy.cons ⟨QL c,by rw[QS];show min _ 14<15;omega⟩ ((hJ n).app (HM n))
theorem ux {c n:Int} (hn:n.natAbs<=32767):(lsy c n).length<=31:=by
 unfold lsy
 rw[List.length_cons,List.length_append]
 have a:(if 14<=n.natAbs then vsy (n.natAbs-13) else ([]:List Sym)).length<=29:=by
  split
  ·rw[Yz];have:=QX (v:=n.natAbs-13) (by omega) (by omega);omega
  ·exact Nat.zero_le _
 have b:(if n=0 then ([]:List Sym) else [(evn,if n<0 then 1 else 0)]).length<=1:=by split<;>simp
 omega
end Go.Fo
