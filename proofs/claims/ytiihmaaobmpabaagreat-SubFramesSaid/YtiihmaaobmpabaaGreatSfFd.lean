/- What a splitter tells of a block,and what it holds behind it. -/
import Derived.Test.YtiihmaaobmpabaaGreatSfWv
import Derived.Test.YtiihmaaobmpabaaGreatJ3
import Derived.KernelRfl
namespace Go.Fo
set_option maxRecDepth 6000

def yg (x:Int):Int:=if x < -2147483648 then -2147483648 else if x>2147483647 then 2147483647 else x
theorem WM (x:Int):-2147483648<=yg x/\yg x<=2147483647:=by
 unfold yg
 split
 ·omega
 ·split<;>omega
theorem Q2 (K:Nat) {n s:Int} (h0:-9223372036854775808<=n) (h1:n<=9223372036854775807) (hs:1<=s) (hs2:s<=62):jO K n s=some (yg (rnd n s.toNat)):=by
 refine wr (uE K h0 h1 hs hs2) ?_
 have hb:=WM (rnd n s.toNat)
 have hw:qu K (rnd n s.toNat) (-2147483648) 2147483647=some (yg (rnd n s.toNat)):=by
  unfold qu yg
  by_cases a:rnd n s.toNat < -2147483648
  ·rw [if_pos a]; exact wO (decide_eq_true a) rfl
  ·rw [if_neg a]
   refine wA (decide_eq_false a) ?_
   by_cases b:rnd n s.toNat>2147483647
   ·rw [if_pos b]; exact wO (decide_eq_true b) rfl
   ·rw [if_neg b]; exact wA (decide_eq_false b) rfl
 refine wr (x:=yg (rnd n s.toNat)) ?_ ?_
 ·refine wr hw ?_
  rw [Wp hb.1 hb.2]
 ·rw [wX (by omega) (by omega)]

def wv (m:Nat) (turn:List Int) (a b:Int):Int:=wa .i64 (turn.getD (a*b%(8*m)).toNat 0)
theorem tmm (x:Int) {d:Int} (hd:1<=d):Int.tmod (Int.tmod x d+d) d=x%d:=by
 have h1:=Int.mul_tdiv_add_tmod x d
 have:=Int.lt_tmod_of_pos x (b:=d) (by omega)
 have:=Int.tmod_lt_of_pos x (b:=d) (by omega)
 rw [Int.tmod_eq_emod_of_nonneg (by omega),Int.add_emod_right]
 conv=>rhs; rw [<-h1]
 rw [Int.add_comm,Int.add_mul_emod_self_left]
theorem Mm (K m:Nat) (hm:m=4\/m=8) (h turn x:List Int) (ht:turn.length=8*m) {a b:Int} (ha:-9000000<=a*b) (hb:a*b<=9000000):jf K a b (m:Int) h turn x=some (wv m turn a b):=by
 have hd:wa .i64 (8*(m:Int))=8*(m:Int):=wX (by omega) (by omega)
 have e1:=Int.lt_tmod_of_pos (a*b) (b:=8*(m:Int)) (by omega)
 have e2:=Int.tmod_lt_of_pos (a*b) (b:=8*(m:Int)) (by omega)
 have e3:=Int.emod_nonneg (a*b) (b:=8*(m:Int)) (by omega)
 have e4:=Int.emod_lt_of_pos (a*b) (b:=8*(m:Int)) (by omega)
 unfold jf
 rw [hd,wX (x:=a*b) (by omega) (by omega)]
 refine zi (by omega) ?_
 rw [wX (x:=Int.tmod (a*b) (8*(m:Int))+8*(m:Int)) (by omega) (by omega)]
 dsimp only
 rw [tmm _ (by omega)]
 refine zi (by omega) ?_
 exact zi (by rw [ht]; omega) rfl

def nxb (m:Nat) (b X:List Int):List Int:=(b.map (wa .i64)).reverse++X.take (9*m)
theorem Hm {m:Nat} {b X:List Int} (hb:b.length=m) (hX:X.length=10*m):(nxb m b X).length=10*m:=by
 unfold nxb; rw [List.length_append,List.length_reverse,List.length_map,List.length_take]; omega
theorem JW (m:Nat) (b:List Int) (Z:List Int) (hb:b.length=m) (hZ:m<=Z.length):∀ k,k<=m->accf (fun k xs=>List.set xs (m-1-k) (wa .i64 (b.getD k 0))) Z k=Z.take (m-k)++(((b.take k).map (wa .i64)).reverse++Z.drop m)
 | 0,_=>by simp [accf]
 | k+1,h=>by
  show List.set (accf _ Z k) (m-1-k) (wa .i64 (b.getD k 0))=_
  rw [JW m b Z hb hZ k (by omega)]
  have e1:Z.take (m-k)=Z.take (m-(k+1))++[Z.getD (m-1-k) 0]:=by
   rw [show m-k=(m-(k+1))+1 by omega,List.take_add_one,show m-1-k=m-(k+1) by omega,List.getD_eq_getElem?_getD]
   congr 1
   rw [List.getElem?_eq_getElem (by omega)]; rfl
  have e2:b.take (k+1)=b.take k++[b.getD k 0]:=by
   rw [List.take_add_one,List.getD_eq_getElem?_getD]
   congr 1
   rw [List.getElem?_eq_getElem (by omega)]; rfl
  have hl:(Z.take (m-(k+1))).length=m-1-k:=by rw [List.length_take]; omega
  rw [e1,e2,List.append_assoc,List.set_append_right _ _ (by omega),hl,Nat.sub_self,List.map_append,List.reverse_append]
  simp
theorem gB (K m:Nat) (hK:100<=K) (hm:m=4\/m=8) (b h turn X:List Int) (hb:b.length=m) (hX:X.length=10*m) :
  wq.l4 K b (m:Int) (m:Int) h turn K 0 (cpy m X X)=some (nxb m b X):=by
 have hl:(cpy m X X).length=10*m:=by unfold cpy; simp; omega
 have hZ:∀ k,k<=m->(accf (fun k xs=>List.set xs (m-1-k) (wa .i64 (b.getD k 0))) (cpy m X X) k).length=10*m:=by
  intro k hk
  rw [JW m b _ hb (by omega) k hk]; simp; omega
 have:=uo (r:=wq.r4 K b (m:Int) (m:Int) h turn) (b:=fun _ _=>none) m (fun k xs=>List.set xs (m-1-k) (wa .i64 (b.getD k 0))) (cpy m X X) (some (nxb m b X)) (fun next k hk=>?_) (fun next=>?_) (K:=K) (by omega)
 ·exact this
 ·refine wO (decide_eq_true (by omega)) ?_
  refine zi (by rw [hb]; omega) ?_
  have e1:wa .i64 ((m:Int)-1)=(m:Int)-1:=wX (by omega) (by omega)
  have e2:wa .i64 ((m:Int)-1-(k:Int))=(m:Int)-1-(k:Int):=wX (by omega) (by omega)
  rw [e1]
  dsimp only
  rw [e2]
  refine zi (by rw [hZ k (by omega)]; omega) ?_
  refine zi (by rw [hZ k (by omega)]; omega) ?_
  rw [wX (x:=(k:Int)+1) (by omega) (by omega),show ((m:Int)-1-(k:Int)).toNat=m-1-k by omega]
  rfl
 ·refine wA (decide_eq_false (by omega)) ?_
  rw [JW m b _ hb (by omega) m (Nat.le_refl _)]
  congr 1
  have e3:(cpy m X X).drop m=X.take (9*m):=by
   unfold cpy
   have:(X.take m).length=m:=by rw [List.length_take]; omega
   rw [List.drop_append,List.drop_of_length_le (by omega),List.nil_append,this,Nat.sub_self,List.drop_zero,List.drop_of_length_le (l:=X) (by omega),List.append_nil,hX,show 10*m-m=9*m by omega]
  rw [Nat.sub_self,List.take_zero,List.nil_append,e3,List.take_of_length_le (by omega)]
  rfl

def sacc (m:Nat) (h X:List Int) (j:Nat):Int:=accf (fun k s=>wa .i64 (wa .i64 (X.getD (j+2*m*k) 0*wa .i64 (h.getD (j+2*m*k) 0))-s)) 0 5
def yv (m:Nat) (h X:List Int) (j:Nat):Int:=yg (rnd (wa .i64 (0-sacc m h X j)) 14)
theorem Mk (K m:Nat) (hK:100<=K) (hm:m=4\/m=8) (h turn X:List Int) (hh:h.length=10*m) (hX:X.length=10*m) :
  wq.l2 K ((2*m:Nat):Int) (m:Int) h turn X K 0 (List.replicate (2*m) 0)=some (kg (yv m h X) (2*m)):=by
 refine Qk (2*m) (yv m h X) 0 _ (fun next j xs hj hxs=>?_) (fun next=>?_) (by omega)
 ·refine wO (decide_eq_true (by omega)) ?_
  refine wr (x:=sacc m h X j) ?_ ?_
  ·refine vU 5 (fun k s=>wa .i64 (wa .i64 (X.getD (j+2*m*k) 0*wa .i64 (h.getD (j+2*m*k) 0))-s)) 0 _ (fun next k s hk=>?_) (fun next=>?_) (by omega)
   ·refine wO (decide_eq_true (by omega)) ?_
    have e1:wa .i64 (2*(m:Int))=2*(m:Int):=wX (by omega) (by omega)
    have hb:j+2*m*k<10*m:=by rcases hm with rfl | rfl<;>omega
    have e0:(2*(m:Int))*(k:Int)=((2*m*k:Nat):Int):=by simp
    rw [e1]
    dsimp only
    rw [e0,wX (x:=((2*m*k:Nat):Int)) (by omega) (by omega),wX (x:=(j:Int)+((2*m*k:Nat):Int)) (by omega) (by omega)]
    refine zi (by rw [hX]; omega) ?_
    refine zi (by rw [hX]; omega) ?_
    refine zi (by rw [hh]; omega) ?_
    rw [wX (x:=(k:Int)+1) (by omega) (by omega),show ((j:Int)+((2*m*k:Nat):Int)).toNat=j+2*m*k by omega]
    rfl
   ·unfold wq.r3
    exact wA (by decide) rfl
  ·obtain ⟨b1,b2⟩:=kwb (0-sacc m h X j)
   refine wr (Q2 K b1 b2 (by decide) (by decide)) ?_
   refine zi (by rw [hxs]; omega) ?_
   rw [wX (x:=(j:Int)+1) (by omega) (by omega),Int.toNat_natCast]
   rfl
 ·exact wA (decide_eq_false (by omega)) rfl

def oacc (m:Nat) (turn Y:List Int) (i:Nat):Int:=accf (fun j s=>wa .i64 (s+wa .i64 (Y.getD j 0*wv m turn (2*(i:Int)+1) (2*(j:Int)-(m:Int))))) 0 (2*m)
def ov (m:Nat) (turn Y:List Int) (i:Nat):Int:=yg (rnd (oacc m turn Y i) (16+m/4))
theorem HY (K m:Nat) (hK:100<=K) (hm:m=4\/m=8) (h turn X Y:List Int) (ht:turn.length=8*m) (hY:Y.length=2*m) :
  wq.l0 K (m:Int) (m:Int) h turn X Y K 0 (List.replicate m 0)=some (kg (ov m turn Y) m):=by
 refine Qk m (ov m turn Y) 0 _ (fun next i xs hi hxs=>?_) (fun next=>?_) (by omega)
 ·refine wO (decide_eq_true (by omega)) ?_
  refine wr (x:=oacc m turn Y i) ?_ ?_
  ·refine vU (2*m) (fun j s=>wa .i64 (s+wa .i64 (Y.getD j 0*wv m turn (2*(i:Int)+1) (2*(j:Int)-(m:Int))))) 0 _ (fun next j s hj=>?_) (fun next=>?_) (by omega)
   ·refine wO (decide_eq_true (by rw [hY]; omega)) ?_
    refine zi (by rw [hY]; omega) ?_
    have e1:wa .i64 (2*(i:Int))=2*(i:Int):=wX (by omega) (by omega)
    have e2:wa .i64 (2*(i:Int)+1)=2*(i:Int)+1:=wX (by omega) (by omega)
    have e3:wa .i64 (2*(j:Int))=2*(j:Int):=wX (by omega) (by omega)
    have e4:wa .i64 (2*(j:Int)-(m:Int))=2*(j:Int)-(m:Int):=wX (by omega) (by omega)
    rw [e1]
    dsimp only
    rw [e2,e3,e4]
    have hb1:0<=2*(i:Int)+1/\2*(i:Int)+1<=17:=by omega
    have hb2:-16<=2*(j:Int)-(m:Int)/\2*(j:Int)-(m:Int)<=32:=by omega
    have p1:(2*(i:Int)+1)*(2*(j:Int)-(m:Int))<=(2*(i:Int)+1)*32:=Int.mul_le_mul_of_nonneg_left hb2.2 hb1.1
    have p2:(2*(i:Int)+1)*(-16)<=(2*(i:Int)+1)*(2*(j:Int)-(m:Int)):=Int.mul_le_mul_of_nonneg_left hb2.1 hb1.1
    refine wr (Mm K m hm h turn X ht (by omega) (by omega)) ?_
    rw [wX (x:=(j:Int)+1) (by omega) (by omega),Int.toNat_natCast]
    rfl
   ·exact wA (decide_eq_false (by rw [hY]; omega)) rfl
  ·have e5:wa .i64 (Int.tdiv (m:Int) 4)=(m:Int)/4:=by rw [Int.tdiv_eq_ediv_of_nonneg (by omega),wX (by omega) (by omega)]
   have e6:wa .i64 (16+(m:Int)/4)=16+(m:Int)/4:=wX (by omega) (by omega)
   rw [e5]
   dsimp only
   rw [e6]
   have hb:-9223372036854775808<=oacc m turn Y i/\oacc m turn Y i<=9223372036854775807:=by
    unfold oacc
    obtain ⟨q,hq⟩:∃ q,2*m=q+1:=⟨2*m-1,by omega⟩
    rw [hq]; exact kwb _
   refine wr (Q2 K hb.1 hb.2 (by omega) (by omega)) ?_
   refine zi (by rw [hxs]; omega) ?_
   have hs:=WM (rnd (oacc m turn Y i) (16+(m:Int)/4).toNat)
   rw [Wp hs.1 hs.2,wX (x:=(i:Int)+1) (by omega) (by omega),Int.toNat_natCast]
   have:(16+(m:Int)/4).toNat=16+m/4:=by omega
   rw [this]
   rfl
 ·exact wA (decide_eq_false (by omega)) rfl

def spl (m:Nat) (h turn X:List Int):List Int:=kg (ov m turn (kg (yv m h X) (2*m))) m
theorem HU (K m:Nat) (hK:100<=K) (hm:m=4\/m=8) (b h turn X:List Int) (hb:b.length=m) (hh:h.length=10*m) (ht:turn.length=8*m) (hX:X.length=10*m) :
  wq K b (m:Int) h turn X=some (spl m h turn (nxb m b X),0,nxb m b X):=by
 unfold wq
 refine wA (by rw [hb]; simp) ?_
 refine zi (by rw [hX]; omega) ?_
 rw [Int.toNat_natCast]
 refine zi (by rw [hX]; omega) ?_
 have h4:=gB K m hK hm b h turn X hb hX
 rw [hb]
 refine wr h4 ?_
 have e1:wa .i64 (2*(m:Int))=((2*m:Nat):Int):=by rw [wX (by omega) (by omega)]; omega
 rw [e1]
 dsimp only
 refine zi (by omega) ?_
 rw [Int.toNat_natCast,List.length_replicate]
 refine wr (Mk K m hK hm h turn _ hh (Hm hb hX)) ?_
 refine zi (by omega) ?_
 rw [List.length_replicate]
 refine wr (HY K m hK hm h turn _ _ ht (jX _ _)) rfl
end Go.Fo
