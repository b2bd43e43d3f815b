/- Bits laid and taken,exactly. -/
import Derived.Test.YtiihmaaobmpabaaGreatSfOc
namespace Go.Fo
set_option maxRecDepth 6000
abbrev b1 (L:List Int) (i:Nat):Int:=L.getD i 0
def Bit (L:List Int):Prop:=∀ i,b1 L i=0\/b1 L i=1
theorem Bit.bd {L:List Int} (h:Bit L) (i:Nat):0<=b1 L i/\b1 L i<=1:=by rcases h i with e | e<;>rw [e]<;>decide
def pby (L:List Int) (j:Nat):Int:=128*b1 L (8*j)+64*b1 L (8*j+1)+32*b1 L (8*j+2)+16*b1 L (8*j+3)+8*b1 L (8*j+4)+4*b1 L (8*j+5)+2*b1 L (8*j+6)+b1 L (8*j+7)
def pk (n:Nat) (L:List Int):List Int:=(List.range n).map (pby L)
theorem xy (n:Nat) (L:List Int):(pk n L).length=n:=by simp [pk]
theorem VX {n:Nat} {L:List Int} {j:Nat} (h:j<n):Kd.nth (.int .u8) (pk n L) j=pby L j:=by
 show (pk n L).getD j 0=_
 unfold pk
 rw [List.getD_eq_getElem?_getD,List.getElem?_eq_getElem (by simpa using h)]
 simp
theorem Je {L:List Int} (h:Bit L) (j:Nat):0<=pby L j/\pby L j<256:=by
 have h0:=h.bd (8*j); have h1:=h.bd (8*j+1); have h2:=h.bd (8*j+2); have h3:=h.bd (8*j+3); have h4:=h.bd (8*j+4); have h5:=h.bd (8*j+5); have h6:=h.bd (8*j+6); have h7:=h.bd (8*j+7)
 unfold pby; omega
theorem GP {L:List Int} (h:Bit L) (j:Nat) (t:Nat) (ht:t<8):pby L j/2^(7-t)%2=b1 L (8*j+t):=by
 have h0:=h.bd (8*j); have h1:=h.bd (8*j+1); have h2:=h.bd (8*j+2); have h3:=h.bd (8*j+3); have h4:=h.bd (8*j+4); have h5:=h.bd (8*j+5); have h6:=h.bd (8*j+6); have h7:=h.bd (8*j+7)
 have hb:t=0\/t=1\/t=2\/t=3\/t=4\/t=5\/t=6\/t=7:=by omega
 unfold pby
 rcases hb with rfl | rfl | rfl | rfl | rfl | rfl | rfl | rfl<;>simp only [Nat.add_zero,Nat.reduceSub,Int.reducePow]<;>omega
theorem J3 {L M:List Int} {i:Nat}:b1 (L++M) i=if i<L.length then b1 L i else b1 M (i-L.length):=by
 unfold b1
 rw [List.getD_eq_getElem?_getD,List.getD_eq_getElem?_getD,List.getD_eq_getElem?_getD]
 by_cases h:i<L.length
 ·rw [if_pos h,List.getElem?_append_left h]
 ·rw [if_neg h,List.getElem?_append_right (by omega)]
theorem vj {L:List Int} {i:Nat} (h:L.length<=i):b1 L i=0:=by
 unfold b1; rw [List.getD_eq_getElem?_getD,List.getElem?_eq_none h]; rfl
theorem Bit.app {L M:List Int} (h:Bit L) (k:Bit M):Bit (L++M):=fun i=>by rw [J3]; split; exact h i; exact k _
theorem Bit.nil:Bit []:=fun i=>.inl (vj (by simp))
theorem orB:((List.range 256).all fun y=>(List.range 8).all fun t=>decide (y%2^(8-t)≠0)||decide (kor .u8 (y:Int) (kshr .u8 128 (t:Int))=((y+2^(7-t):Nat):Int)))=true:=by kernel_rfl
theorem ml {y:Int} {t:Nat} (h0:0<=y) (h1:y<256) (ht:t<8) (hd:y%2^(8-t)=0):kor .u8 y (kshr .u8 128 (t:Int))=y+2^(7-t):=by
 have h:=List.all_eq_true.1 (List.all_eq_true.1 orB y.toNat (List.mem_range.2 (by omega))) t (List.mem_range.2 ht)
 rw [Int.toNat_of_nonneg h0] at h
 rcases Bool.or_eq_true _ _▸h with h | h
 ·exfalso
  have h:=of_decide_eq_true h
  apply h
  have:((y.toNat%2^(8-t):Nat):Int)=0:=by push_cast; rw [Int.toNat_of_nonneg h0]; exact hd
  exact_mod_cast this
 ·have h:=of_decide_eq_true h
  rw [h]; push_cast; rw [Int.toNat_of_nonneg h0]
theorem H3 {n:Nat} {L:List Int} (h:Bit L) (hx:L.length<8*n):(pk n L).set (L.length/8) (kor .u8 (pby L (L.length/8)) (kshr .u8 128 ((L.length%8:Nat):Int)))=pk n (L++[1]):=by
 have hr:=Je h (L.length/8)
 have hz:∀ t,L.length%8<=t->b1 L (8*(L.length/8)+t)=0:=fun t ht=>vj (by omega)
 have h0:=h.bd (8*(L.length/8)); have h1:=h.bd (8*(L.length/8)+1); have h2:=h.bd (8*(L.length/8)+2); have h3:=h.bd (8*(L.length/8)+3); have h4:=h.bd (8*(L.length/8)+4); have h5:=h.bd (8*(L.length/8)+5); have h6:=h.bd (8*(L.length/8)+6); have h7:=h.bd (8*(L.length/8)+7)
 have hq:L.length%8=0\/L.length%8=1\/L.length%8=2\/L.length%8=3\/L.length%8=4\/L.length%8=5\/L.length%8=6\/L.length%8=7:=by omega
 have hd:pby L (L.length/8)%2^(8-L.length%8)=0:=by
  unfold pby
  rcases hq with e | e | e | e | e | e | e | e<;>rw [e] at hz ⊢<;>simp only [Nat.reduceSub,Int.reducePow]
  ·rw [show b1 L (8*(L.length/8))=0 from hz 0 (by omega),hz 1 (by omega),hz 2 (by omega),hz 3 (by omega),hz 4 (by omega),hz 5 (by omega),hz 6 (by omega),hz 7 (by omega)]; rfl
  ·rw [hz 1 (by omega),hz 2 (by omega),hz 3 (by omega),hz 4 (by omega),hz 5 (by omega),hz 6 (by omega),hz 7 (by omega)]; omega
  ·rw [hz 2 (by omega),hz 3 (by omega),hz 4 (by omega),hz 5 (by omega),hz 6 (by omega),hz 7 (by omega)]; omega
  ·rw [hz 3 (by omega),hz 4 (by omega),hz 5 (by omega),hz 6 (by omega),hz 7 (by omega)]; omega
  ·rw [hz 4 (by omega),hz 5 (by omega),hz 6 (by omega),hz 7 (by omega)]; omega
  ·rw [hz 5 (by omega),hz 6 (by omega),hz 7 (by omega)]; omega
  ·rw [hz 6 (by omega),hz 7 (by omega)]; omega
  ·rw [hz 7 (by omega)]; omega
 rw [ml hr.1 hr.2 (Nat.mod_lt _ (by decide)) hd]
 apply List.ext_getElem
 ·simp [pk]
 ·intro k g1 g2
  have hk:k<n:=by simpa [pk] using g2
  rw [List.getElem_set]
  simp only [pk,List.getElem_map,List.getElem_range]
  have ha:∀ i,b1 (L++[1]) i=if i<L.length then b1 L i else if i=L.length then 1 else 0:=fun i=>by
   rw [J3]
   by_cases e:i<L.length
   ·rw [if_pos e,if_pos e]
   ·rw [if_neg e,if_neg e]
    by_cases e2:i=L.length
    ·rw [if_pos e2,e2,Nat.sub_self]; rfl
    ·rw [if_neg e2]; exact vj (by simp; omega)
  by_cases e:L.length/8=k
  ·rw [if_pos e,<-e]
   have ha2:∀ t,b1 (L++[1]) (8*(L.length/8)+t)=if t<L.length%8 then b1 L (8*(L.length/8)+t) else if t=L.length%8 then 1 else 0:=fun t=>by
    rw [ha]
    by_cases q:t<L.length%8
    ·rw [if_pos q,if_pos (by omega)]
    ·rw [if_neg q,if_neg (by omega)]
     by_cases q2:t=L.length%8
     ·rw [if_pos q2,if_pos (by omega)]
     ·rw [if_neg q2,if_neg (by omega)]
   unfold pby
   rw [show b1 (L++[1]) (8*(L.length/8))=_ from ha2 0,ha2 1,ha2 2,ha2 3,ha2 4,ha2 5,ha2 6,ha2 7]
   have z0:=hz 0; have z1:=hz 1; have z2:=hz 2; have z3:=hz 3; have z4:=hz 4; have z5:=hz 5; have z6:=hz 6; have z7:=hz 7
   rcases hq with e | e | e | e | e | e | e | e<;>rw [e] at z0 z1 z2 z3 z4 z5 z6 z7 ⊢<;>simp only [Nat.reduceSub,Int.reducePow,Nat.reduceLT,if_true,if_false,Nat.reduceEqDiff,Nat.add_zero] at z0 z1 z2 z3 z4 z5 z6 z7 ⊢<;>omega
  ·rw [if_neg e]
   have hs:∀ t,t<8->b1 (L++[1]) (8*k+t)=b1 L (8*k+t):=fun t ht=>by
    rw [ha]
    by_cases q:8*k+t<L.length
    ·rw [if_pos q]
    ·rw [if_neg q,if_neg (by omega)]; exact (vj (by omega)).symm
   unfold pby
   rw [show b1 (L++[1]) (8*k)=b1 L (8*k) from hs 0 (by omega),hs 1 (by omega),hs 2 (by omega),hs 3 (by omega),hs 4 (by omega),hs 5 (by omega),hs 6 (by omega),hs 7 (by omega)]
theorem Yw (n:Nat) (L:List Int):pk n (L++[0])=pk n L:=by
 have ha:∀ i,b1 (L++[0]) i=b1 L i:=fun i=>by
  rw [J3]
  by_cases e:i<L.length
  ·rw [if_pos e]
  ·rw [if_neg e,vj (L:=L) (by omega)]
   cases h:i-L.length with
   | zero=>rfl
   | succ j=>exact vj (by simp)
 unfold pk
 apply List.map_congr_left
 intro j _
 unfold pby
 rw [ha,ha,ha,ha,ha,ha,ha,ha]
def bn (v:Int) (k:Nat):List Int:=(List.range k).map fun i=>v/2^(k-1-i)%2
theorem kO (v:Int) (k:Nat):(bn v k).length=k:=by simp [bn]
theorem Mp {v:Int} {k i:Nat} (h:i<k):b1 (bn v k) i=v/2^(k-1-i)%2:=by
 unfold b1 bn
 rw [List.getD_eq_getElem?_getD,List.getElem?_eq_getElem (by simpa using h)]
 simp
theorem VI (v:Int) (k:Nat):Bit (bn v k):=fun i=>by
 by_cases h:i<k
 ·rw [Mp h]; omega
 ·exact .inl (vj (by rw [kO]; omega))
theorem YH {v:Int} {k i:Nat} (h:i<k):(bn v k).take (i+1)=(bn v k).take i++[v/2^(k-1-i)%2]:=by
 rw [List.take_add_one,List.getElem?_eq_getElem (by rw [kO]; exact h)]
 simp [bn]
theorem gG {x:Int} (h0:0<=x) (h1:x<4294967296):kand .u32 x 1=x%2:=by
 have h:=ZV 32 x 1 (by decide)
 unfold kand
 show wa .u32 ((BitVec.ofInt 32 x &&& BitVec.ofInt 32 1).toNat:Int)=_
 have h:((BitVec.ofInt 32 x &&& BitVec.ofInt 32 1).toNat:Int)=x%2:=h
 rw [h]
 unfold wa IntKind.wrap; simp [IntKind.bits,IntKind.signed]; omega
theorem Ki {s t:Nat} (h:s<=t):(2:Int)^s<=2^t:=by
 have:=Int.ofNat_le.2 (Nat.pow_le_pow_right (n:=2) (by decide) h)
 rwa [Int.natCast_pow,Int.natCast_pow] at this
theorem V7 {v:Int} {i:Nat} (hi:i<32):kshr .u32 v (i:Int)=v/2^i:=by
 unfold kshr
 rw [show min (Int.toNat (i:Int)) IntKind.u32.bits=i by show min i 32=i; omega]
 exact Int.fdiv_eq_ediv_of_nonneg _ (Int.pow_nonneg (by decide))
theorem GD {v:Int} {k n:Nat} {L:List Int} (hL:Bit L) (hn:n<=600) (hk:k<=32) (hv0:0<=v) (hv:v<2^k) (hx:L.length+k<=8*n):zd 5000 v k L.length 0 (pk n L)=some (0,((L.length+k:Nat):Int),pk n (L++bn v k)):=by
 have hv2:v<4294967296:=Int.lt_of_lt_of_le hv (Ki hk)
 have hw:kZ 5000 v k L.length 0 (pk n L)=some 0:=by
  have e1:wa .i64 (8*(((pk n L).length:Nat):Int))=8*n:=by rw [xy]; exact zH (by omega) (by omega)
  have e2:jo 5000 k (((pk n L).length:Nat):Int) L.length 0 (pk n L)=some 0:=by
   refine wA (by rw [decide_eq_false (by omega),decide_eq_false (by omega)]; rfl) (wr (x:=8*(n:Int)-L.length) ?_ (wA (decide_eq_false (by omega)) rfl))
   unfold j9
   dsimp only
   rw [e1,zH (x:=8*(n:Int)-L.length) (by omega) (by omega),Int.sub_zero,zH (by omega) (by omega)]
  refine zi (fun _=>by omega) (wA ?_ (wr e2 rfl))
  rw [decide_eq_true (show (k:Int)>=0 by omega)]
  by_cases e:k<32
  ·rw [decide_eq_true (show (k:Int)<32 by omega),V7 e,Int.ediv_eq_zero_of_lt hv0 hv]; rfl
  ·rw [decide_eq_false (by omega)]; rfl
 refine wr hw (wA rfl ?_)
 dsimp only
 have key:∀ (j m:Nat),j<m->j<=k->zd.l0 5000 v 0 m ((j:Int)-1) ((L.length+(k-j):Nat):Int) (pk n (L++(bn v k).take (k-j)))=some (((L.length+k:Nat):Int),pk n (L++bn v k)):=by
  intro j
  induction j with
  | zero =>
   intro m hm _
   obtain ⟨m,rfl⟩:∃ q,m=q+1:=⟨m-1,by omega⟩
   show zd.r0 5000 v 0 (zd.l0 5000 v 0 m) (((0:Nat):Int)-1) ((L.length+(k-0):Nat):Int) (pk n (L++(bn v k).take (k-0)))=_
   unfold zd.r0
   refine wA (decide_eq_false (by omega)) ?_
   rw [Nat.sub_zero,List.take_of_length_le (by rw [kO]; omega)]
  | succ j ih =>
   intro m hm hj
   obtain ⟨m,rfl⟩:∃ q,m=q+1:=⟨m-1,by omega⟩
   have ih:=ih m (by omega) (by omega)
   have ht:(L++(bn v k).take (k-(j+1))).length=L.length+(k-(j+1)):=by rw [List.length_append,List.length_take,kO]; omega
   have hbit:Bit (L++(bn v k).take (k-(j+1))):=hL.app (fun i=>by
    unfold b1
    rw [List.getD_eq_getElem?_getD,List.getElem?_take]
    split
    ·rw [<-List.getD_eq_getElem?_getD]; exact VI v k i
    ·exact .inl rfl)
   have hnx:L++(bn v k).take (k-j)=(L++(bn v k).take (k-(j+1)))++[v/2^j%2]:=by
    rw [show k-j=(k-(j+1))+1 by omega,YH (by omega),List.append_assoc,show k-1-(k-(j+1))=j by omega]
   rw [show (((j+1:Nat):Int)-1)=(j:Int) by omega]
   show zd.r0 5000 v 0 (zd.l0 5000 v 0 m) (j:Int) ((L.length+(k-(j+1)):Nat):Int) (pk n (L++(bn v k).take (k-(j+1))))=_
   have hdv:0<=v/2^j/\v/2^j<4294967296:=⟨Int.ediv_nonneg hv0 (Int.pow_nonneg (by decide)),Int.lt_of_le_of_lt (Int.ediv_le_self _ hv0) hv2⟩
   generalize hM:L++(bn v k).take (k-(j+1))=M at *
   unfold zd.r0
   refine wO (decide_eq_true (by omega)) (wr (x:=(((M.length+1:Nat):Int),pk n (M++[v/2^j%2]))) ?_ ?_)
   ·refine wr (YG (by omega) (by omega) _) ?_
    dsimp only
    rw [V7 (by omega),gG hdv.1 hdv.2]
    refine zi (by omega) ?_
    rw [<-ht]
    by_cases e:v/2^j%2=1
    ·refine wO (by rw [e]; rfl) (zi ⟨by omega,by rw [xy]; omega,by rw [xy]; omega,by omega,by rw [xy]; omega,by rw [xy]; omega⟩ ?_)
     rw [e,<-H3 hbit (by omega),show Int.toNat ((M.length:Int)/8)=M.length/8 by omega,VX (by omega)]
     congr 1
    ·have e0:v/2^j%2=0:=by omega
     refine wA (by rw [e0]; rfl) ?_
     rw [e0,Yw]; congr 1
   ·dsimp only
    rw [zH (x:=(j:Int)-1) (by omega) (by omega),<-hnx,show M.length+1=L.length+(k-j) by omega]
    exact ih
 have h0:=key k 5000 (by omega) (Nat.le_refl _)
 rw [Nat.sub_self,Nat.add_zero,List.take_zero,List.append_nil] at h0
 rw [zH (x:=(k:Int)-1) (by omega) (by omega)]
 exact wr h0 rfl
def Zr (q:Int × Int):Prop:=0<=q.2/\q.2<=32/\0<=q.1/\q.1<2^q.2.toNat
def bns (l:List (Int × Int)):List Int:=l.flatMap fun q=>bn q.1 q.2.toNat
def wid (l:List (Int × Int)):Nat:=(bns l).length
theorem yl:∀ l,Bit (bns l)
 | []=>Bit.nil
 | q::l=>by
  show Bit (bn q.1 q.2.toNat++bns l)
  exact (VI _ _).app (yl l)
theorem jj (l m:List (Int × Int)):bns (l++m)=bns l++bns m:=by unfold bns; rw [List.flatMap_append]
theorem vo (q:Int × Int):bns [q]=bn q.1 q.2.toNat:=by unfold bns; simp
theorem Z6 {v:Int} (h0:0<=v) (h1:v<4294967296):wa .u32 v=v:=by
 unfold wa IntKind.wrap; simp [IntKind.bits,IntKind.signed]; omega
theorem MQ {l:List (Int × Int)} {n:Nat} {L:List Int} (hl:l.length<=1000) (hL:Bit L) (hn:n<=600) (hf:∀ i,i<l.length->Zr (l.getD i (0,0))) (hx:L.length+wid l<=8*n) :
  wV 5000 l L.length 0 (pk n L)=some ((wid l:Int),((L.length+wid l:Nat):Int),pk n (L++bns l)):=by
 have key:∀ (k m i:Nat),k<m->i+k=l.length->wV.l0 5000 l (l.length:Int) 0 m (wid (l.take i):Int) i ((L.length+wid (l.take i):Nat):Int) (pk n (L++bns (l.take i)))=some ((wid l:Int),((L.length+wid l:Nat):Int),pk n (L++bns l)):=by
  intro k
  induction k with
  | zero =>
   intro m i hm hi
   obtain ⟨m,rfl⟩:∃ q,m=q+1:=⟨m-1,by omega⟩
   have e:l.take i=l:=List.take_of_length_le (by omega)
   rw [e]
   show wV.r0 5000 l (l.length:Int) 0 (wV.l0 5000 l (l.length:Int) 0 m) (wid l:Int) (i:Int) ((L.length+wid l:Nat):Int) (pk n (L++bns l))=_
   unfold wV.r0
   exact wA (decide_eq_false (by omega)) rfl
  | succ k ih =>
   intro m i hm hi
   obtain ⟨m,rfl⟩:∃ q,m=q+1:=⟨m-1,by omega⟩
   have ih:=ih m (i+1) (by omega) (by omega)
   have hi':i<l.length:=by omega
   have hq:l.take (i+1)=l.take i++[l.getD i (0,0)]:=by
    rw [List.take_add_one,List.getD_eq_getElem?_getD,List.getElem?_eq_getElem hi']; rfl
   have hf1:=hf i hi'
   generalize l.getD i (0,0)=q at *
   obtain ⟨f1,f2,f3,f4⟩:=hf1
   have hb:bns (l.take (i+1))=bns (l.take i)++bn q.1 q.2.toNat:=by rw [hq,jj,vo]
   have hw:wid (l.take (i+1))=wid (l.take i)+q.2.toNat:=by unfold wid; rw [hb,List.length_append,kO]
   have hle:wid (l.take (i+1))<=wid l:=by
    have:bns l=bns (l.take (i+1))++bns (l.drop (i+1)):=by rw [<-jj,List.take_append_drop]
    unfold wid; rw [this,List.length_append]; omega
   have hv:q.1<4294967296:=Int.lt_of_lt_of_le f4 (Ki (t:=32) (by omega))
   have hfr:=GD (v:=q.1) (k:=q.2.toNat) (n:=n) (L:=L++bns (l.take i)) (hL.app (yl _)) hn (by omega) f3 f4 (by rw [List.length_append]; show L.length+wid (l.take i)+_<=_; omega)
   rw [List.length_append,Int.toNat_of_nonneg f1] at hfr
   show wV.r0 5000 l (l.length:Int) 0 (wV.l0 5000 l (l.length:Int) 0 m) (wid (l.take i):Int) (i:Int) ((L.length+wid (l.take i):Nat):Int) (pk n (L++bns (l.take i)))=_
   unfold wV.r0
   have hn2:Kd.nth (.pair (.int .i64) (.int .i64)) l (Int.toNat (i:Int))=q:=by
    have:(l.take (i+1)).getD i (0,0)=q:=by rw [hq,List.getD_eq_getElem?_getD,List.getElem?_append_right (by rw [List.length_take]; omega)]; simp [List.length_take,Nat.min_eq_left (show i<=l.length by omega)]
    show l.getD i (0,0)=q
    rw [<-this,List.getD_eq_getElem?_getD,List.getD_eq_getElem?_getD,List.getElem?_take,if_pos (by omega)]
   refine wO (decide_eq_true (by omega)) (zi ⟨by omega,by omega⟩ ?_)
   dsimp only
   rw [hn2,Z6 f3 hv]
   refine wr hfr ?_
   dsimp only
   rw [kw1 (by omega) (by omega),zH (x:=(wid (l.take i):Int)+q.2) (by omega) (by omega),List.append_assoc,<-hb]
   have e1:(wid (l.take i):Int)+q.2=(wid (l.take (i+1)):Int):=by omega
   have e2:(((L.length+(bns (l.take i)).length+q.2.toNat:Nat)):Int)=((L.length+wid (l.take (i+1)):Nat):Int):=by rw [hw]; unfold wid; omega
   rw [e1,e2]
   exact ih
 have h0:=key l.length 5000 0 (by omega) (by omega)
 have e:wid (l.take 0)=0:=by unfold wid bns; simp
 rw [e,List.take_zero] at h0
 have e2:L++bns []=L:=by unfold bns; simp
 rw [e2] at h0
 exact wr h0 rfl
def num (l:List Int):Int:=l.foldl (fun a b=>2*a+b) 0
theorem gc (l:List Int) (x:Int):num (l++[x])=2*num l+x:=by unfold num; rw [List.foldl_append]; rfl
def my (M:List Int) (x k n:Nat):List Int:=(List.range n).map fun i=>num ((List.range k).map fun t=>b1 M (x+i*k+t))
def sm (z:Int->Int) (N:Nat):Int:=itr N (fun i a=>a+z i) 0
theorem K2 (z:Int->Int) (n:Nat):sm z (n+1)=sm z n+z n:=rfl
theorem Kh (z:Int->Int) (i:Nat) (v:Int):∀ n:Nat,sm (upd z i v) n=if i<n then sm z n-z i+v else sm z n
 | 0=>by rw [if_neg (by omega)]; rfl
 | n+1=>by
  rw [K2,K2,Kh z i v n]
  unfold upd
  by_cases e:i<n
  ·rw [if_pos e,if_neg (by omega),if_pos (by omega)]; omega
  ·rw [if_neg e]
   by_cases e2:i=n
   ·rw [if_pos (by omega),if_pos (by omega),e2]; omega
   ·rw [if_neg (by omega),if_neg (by omega)]
theorem Kq (h:Int->Int) (a b:Int):∀ n:Nat,(∀ i:Int,n<=i->(itr n (sset h a) (b,fun _=>0)).2 i=0)/\(∀ i:Int,0<=i->i<n->(itr n (sset h a) (b,fun _=>0)).2 i=GG (h i-a))/\sm (itr n (sset h a) (b,fun _=>0)).2 n=tot h n a
 | 0=>⟨fun _ _=>rfl,fun i _ _=>by omega,rfl⟩
 | n+1=>by
  obtain ⟨h1,h2,h3⟩:=Kq h a b n
  have e0:(itr (n+1) (sset h a) (b,fun _=>0)).2=if h n>=a+2 then upd (itr n (sset h a) (b,fun _=>0)).2 n (imin (h n-a) 16) else (itr n (sset h a) (b,fun _=>0)).2:=rfl
  have hg:(if h n>=a+2 then imin (h n-a) 16 else 0)=GG (h n-a):=by
   unfold GG imin
   by_cases c:h n>=a+2
   ·rw [if_pos c]; split<;>(split<;>(try split)<;>omega)
   ·rw [if_neg c,if_pos (by omega)]
  rw [e0]
  generalize (itr n (sset h a) (b,fun _=>0)).2=z at *
  have ht:tot h (n+1) a=tot h n a+GG (h n-a):=rfl
  by_cases c:h n>=a+2
  ·rw [if_pos c] at hg ⊢
   refine ⟨fun i hi=>?_,fun i i0 i1=>?_,?_⟩
   ·unfold upd; rw [if_neg (by omega)]; exact h1 i (by omega)
   ·unfold upd
    by_cases e:i=n
    ·rw [if_pos e,e]; exact hg
    ·rw [if_neg e]; exact h2 i i0 (by omega)
   ·rw [Kh,if_pos (by omega),K2,h1 n (Int.le_refl _),ht,<-hg,h3]; omega
  ·rw [if_neg c] at hg ⊢
   refine ⟨fun i hi=>h1 i (by omega),fun i i0 i1=>?_,?_⟩
   ·by_cases e:i=n
    ·rw [e,h1 n (Int.le_refl _),hg]
    ·exact h2 i i0 (by omega)
   ·rw [K2,h1 n (Int.le_refl _),ht,<-hg,h3]
theorem Xh (new:Bool) (pool s:Int) (h:Int->Int) (N:Nat) (a:Int × (Int->Int)) (ha:a.1=sm a.2 N/\a.1<=pool) (hz:new=true->∀ i:Nat,h i=s+1->a.2 i=0):∀ n:Nat,n<=N →
  (itr n (mst new pool s h) a).1=sm (itr n (mst new pool s h) a).2 N/\(itr n (mst new pool s h) a).1<=pool/\∀ i:Nat,n<=i->(itr n (mst new pool s h) a).2 i=a.2 i
 | 0,_=>⟨ha.1,ha.2,fun _ _=>rfl⟩
 | n+1,hn=>by
  obtain ⟨h1,h2,h3⟩:=Xh new pool s h N a ha hz n (by omega)
  have e0:itr (n+1) (mst new pool s h) a=mst new pool s h n (itr n (mst new pool s h) a):=rfl
  have h4:=h3 n (Nat.le_refl _)
  rw [e0]
  generalize itr n (mst new pool s h) a=q at *
  unfold mst
  by_cases c1:q.1>=pool
  ·rw [if_pos c1]; exact ⟨h1,h2,fun i hi=>h3 i (by omega)⟩
  ·rw [if_neg c1]
   by_cases c2:2<=q.2 n/\q.2 n<16
   ·rw [if_pos c2]
    refine ⟨?_,by show q.1+1<=pool; omega,fun i hi=>?_⟩
    ·show q.1+1=sm (upd q.2 n (q.2 n+1)) N
     rw [Kh,if_pos (by omega)]; omega
    ·show upd q.2 n (q.2 n+1) i=a.2 i
     unfold upd; rw [if_neg (by omega)]; exact h3 i (by omega)
   ·rw [if_neg c2]
    by_cases c3:new=true/\h n=s+1/\pool>q.1+1
    ·rw [if_pos c3]
     have z0:q.2 n=0:=by rw [h4]; exact hz c3.1 n c3.2.1
     refine ⟨?_,by show q.1+2<=pool; omega,fun i hi=>?_⟩
     ·show q.1+2=sm (upd q.2 n 2) N
      rw [Kh,if_pos (by omega)]; omega
     ·show upd q.2 n 2 i=a.2 i
      unfold upd; rw [if_neg (by omega)]; exact h3 i (by omega)
    ·rw [if_neg c3]; exact ⟨h1,h2,fun i hi=>h3 i (by omega)⟩
theorem Ub (h:Int->Int) (N:Nat) (pool a b:Int) (hb:b<=pool) (ht:b=tot h N a):sm (shr h N pool a b).2 N<=pool:=by
 obtain ⟨_,g2,g3⟩:=Kq h a b N
 have hg1:GG 1=0:=rfl
 have m1:=Xh true pool a h N (b,(itr N (sset h a) (b,fun _=>0)).2) ⟨by rw [g3]; exact ht,hb⟩ (fun _ i hi=>by
  by_cases e:i<N
  ·show (itr N (sset h a) (b,fun _=>0)).2 i=0
   rw [g2 i (by omega) (by omega),hi,show a+1-a=1 by omega]; rfl
  ·exact (Kq h a b N).1 i (by omega)) N (Nat.le_refl _)
 have m2:=Xh false pool a h N _ ⟨m1.1,m1.2.1⟩ (fun h=>by cases h) N (Nat.le_refl _)
 unfold shr
 rw [<-m2.1]; exact m2.2.1
end Go.Fo
