/- Lists of numbers laid; numbers taken,exactly. -/
import Derived.Test.YtdfoifpmghandaaGreatSpBa
namespace Go.Fo
set_option maxRecDepth 6000
def fits2 (q : Int × Int) : Prop:=0 ≤ q.2 ∧ q.2 ≤ 32 ∧ 0 ≤ q.1 ∧ q.1 < 2 ^ q.2.toNat
def bns (l : List (Int × Int)) : List Int:=l.flatMap fun q=>bn q.1 q.2.toNat
def wid (l : List (Int × Int)) : Nat:=(bns l).length
theorem bns_bit : ∀ l,Bit (bns l)
 | []=>Bit.nil
 | q :: l=>by
  show Bit (bn q.1 q.2.toNat ++ bns l)
  exact (bn_bit _ _).app (bns_bit l)
theorem bns_app (l m : List (Int × Int)) : bns (l ++ m) = bns l ++ bns m:=by unfold bns; rw [List.flatMap_append]
theorem bns_one (q : Int × Int) : bns [q] = bn q.1 q.2.toNat:=by unfold bns; simp
theorem kwu32 {v : Int} (h0 : 0 ≤ v) (h1 : v < 4294967296) : kwrap .u32 v = v:=by
 unfold kwrap IntKind.wrap; simp [IntKind.bits,IntKind.signed]; omega
theorem put_w {l : List (Int × Int)} {n : Nat} {L : List Int} (hl : l.length ≤ 1000) (hL : Bit L) (hn : n ≤ 600) (hf : ∀ i,i < l.length → fits2 (l.getD i (0,0))) (hx : L.length + wid l ≤ 8 * n) :
  subband_put_2 5000 l L.length 0 (pk n L) = some ((wid l : Int),((L.length + wid l : Nat) : Int),pk n (L ++ bns l)):=by
 have key : ∀ (k m i : Nat),k < m → i + k = l.length → subband_put_2.l0 5000 l (l.length : Int) 0 m (wid (l.take i) : Int) i ((L.length + wid (l.take i) : Nat) : Int) (pk n (L ++ bns (l.take i))) = some ((wid l : Int),((L.length + wid l : Nat) : Int),pk n (L ++ bns l)):=by
  intro k
  induction k with
  | zero =>
   intro m i hm hi
   obtain ⟨m,rfl⟩ : ∃ q,m = q + 1:=⟨m - 1,by omega⟩
   have e : l.take i = l:=List.take_of_length_le (by omega)
   rw [e]
   show subband_put_2.r0 5000 l (l.length : Int) 0 (subband_put_2.l0 5000 l (l.length : Int) 0 m) (wid l : Int) (i : Int) ((L.length + wid l : Nat) : Int) (pk n (L ++ bns l)) = _
   unfold subband_put_2.r0
   exact bif_eq_f (decide_eq_false (by omega)) rfl
  | succ k ih =>
   intro m i hm hi
   obtain ⟨m,rfl⟩ : ∃ q,m = q + 1:=⟨m - 1,by omega⟩
   have ih:=ih m (i + 1) (by omega) (by omega)
   have hi' : i < l.length:=by omega
   have hq : l.take (i + 1) = l.take i ++ [l.getD i (0,0)]:=by
    rw [List.take_add_one,List.getD_eq_getElem?_getD,List.getElem?_eq_getElem hi']; rfl
   have hf1:=hf i hi'
   generalize l.getD i (0,0) = q at *
   obtain ⟨f1,f2,f3,f4⟩:=hf1
   have hb : bns (l.take (i + 1)) = bns (l.take i) ++ bn q.1 q.2.toNat:=by rw [hq,bns_app,bns_one]
   have hw : wid (l.take (i + 1)) = wid (l.take i) + q.2.toNat:=by unfold wid; rw [hb,List.length_append,bn_len]
   have hle : wid (l.take (i + 1)) ≤ wid l:=by
    have : bns l = bns (l.take (i + 1)) ++ bns (l.drop (i + 1)):=by rw [← bns_app,List.take_append_drop]
    unfold wid; rw [this,List.length_append]; omega
   have hv : q.1 < 4294967296:=Int.lt_of_lt_of_le f4 (p2le (t:=32) (by omega))
   have hfr:=front_w (v:=q.1) (k:=q.2.toNat) (n:=n) (L:=L ++ bns (l.take i)) (hL.app (bns_bit _)) hn (by omega) f3 f4 (by rw [List.length_append]; show L.length + wid (l.take i) + _ ≤ _; omega)
   rw [List.length_append,Int.toNat_of_nonneg f1] at hfr
   show subband_put_2.r0 5000 l (l.length : Int) 0 (subband_put_2.l0 5000 l (l.length : Int) 0 m) (wid (l.take i) : Int) (i : Int) ((L.length + wid (l.take i) : Nat) : Int) (pk n (L ++ bns (l.take i))) = _
   unfold subband_put_2.r0
   have hn2 : Kd.nth (.pair (.int .i64) (.int .i64)) l (Int.toNat (i : Int)) = q:=by
    have : (l.take (i + 1)).getD i (0,0) = q:=by rw [hq,List.getD_eq_getElem?_getD,List.getElem?_append_right (by rw [List.length_take]; omega)]; simp [List.length_take,Nat.min_eq_left (show i ≤ l.length by omega)]
    show l.getD i (0,0) = q
    rw [← this,List.getD_eq_getElem?_getD,List.getD_eq_getElem?_getD,List.getElem?_take,if_pos (by omega)]
   refine bif_eq_t (decide_eq_true (by omega)) (gd_eq ⟨by omega,by omega⟩ ?_)
   dsimp only
   rw [hn2,kwu32 f3 hv]
   refine bnd_eq hfr ?_
   dsimp only
   rw [kw1 (by omega) (by omega),kw64 (x:=(wid (l.take i) : Int) + q.2) (by omega) (by omega),List.append_assoc,← hb]
   have e1 : (wid (l.take i) : Int) + q.2 = (wid (l.take (i + 1)) : Int):=by omega
   have e2 : (((L.length + (bns (l.take i)).length + q.2.toNat : Nat)) : Int) = ((L.length + wid (l.take (i + 1)) : Nat) : Int):=by rw [hw]; unfold wid; omega
   rw [e1,e2]
   exact ih
 have h0:=key l.length 5000 0 (by omega) (by omega)
 have e : wid (l.take 0) = 0:=by unfold wid bns; simp
 rw [e,List.take_zero] at h0
 have e2 : L ++ bns [] = L:=by unfold bns; simp
 rw [e2] at h0
 exact bnd_eq h0 rfl
def num (l : List Int) : Int:=l.foldl (fun a b=>2 * a + b) 0
theorem num_app (l : List Int) (x : Int) : num (l ++ [x]) = 2 * num l + x:=by unfold num; rw [List.foldl_append]; rfl
theorem num_r {M : List Int} (h : Bit M) : ∀ k,0 ≤ num (M.take k) ∧ num (M.take k) < 2 ^ k
 | 0=>by rw [List.take_zero]; exact ⟨Int.le_refl _,by decide⟩
 | k + 1=>by
  have ih:=num_r h k
  by_cases e : k < M.length
  ·rw [List.take_add_one,List.getElem?_eq_getElem e]
   show 0 ≤ num (M.take k ++ [M[k]]) ∧ num (M.take k ++ [M[k]]) < _
   rw [num_app,Int.pow_succ]
   have hb:=h.bd k
   have : b1 M k = M[k]:=by unfold b1; rw [List.getD_eq_getElem?_getD,List.getElem?_eq_getElem e]; rfl
   rw [this] at hb
   omega
  ·rw [List.take_of_length_le (by omega)] at ih ⊢
   rw [Int.pow_succ]; omega
theorem or32 {v x : Int} (h0 : 0 ≤ v) (h1 : v < 2147483648) (hx : x = 0 ∨ x = 1) : kor .u32 (kshl .u32 v 1) x = 2 * v + x:=by
 have e1 : kshl .u32 v 1 = 2 * v:=by
  unfold kshl
  rw [show (2 : Int) ^ (min (Int.toNat 1) IntKind.u32.bits) = 2 from rfl,Int.mul_comm]
  exact kwu32 (by omega) (by omega)
 rw [e1]
 unfold kor
 have e2 : (BitVec.ofInt IntKind.u32.bits (2 * v) ||| BitVec.ofInt IntKind.u32.bits x).toNat = 2 * v.toNat + x.toNat:=by
  rw [BitVec.toNat_or,BitVec.toNat_ofInt,BitVec.toNat_ofInt]
  show (2 * v % ((2 ^ 32 : Nat) : Int)).toNat ||| (x % ((2 ^ 32 : Nat) : Int)).toNat = _
  have a1 : (2 * v % ((2 ^ 32 : Nat) : Int)).toNat = v.toNat <<< 1:=by rw [Nat.shiftLeft_eq]; omega
  have a2 : (x % ((2 ^ 32 : Nat) : Int)).toNat = x.toNat:=by omega
  rw [a1,a2,← Nat.shiftLeft_add_eq_or_of_lt (by omega),Nat.shiftLeft_eq]; omega
 rw [e2]
 show kwrap .u32 _ = _
 rw [kwu32 (by omega) (by omega)]; omega
theorem one_w {M : List Int} {n x : Nat} (hM : Bit M) (hx : x < 8 * n) (hn : n ≤ 600) (y z : Int) : bits_Eye_one 5000 ((x : Int) / 8) (kshr .u8 128 ((x : Int) % 8)) y z (pk n M) = some (b1 M x):=by
 have hr:=pby_r hM (x / 8)
 have hb:=pby_bit hM (x / 8) (x % 8) (Nat.mod_lt _ (by decide))
 rw [show 8 * (x / 8) + x % 8 = x by omega] at hb
 have ha:=and_w hr.1 hr.2 (Nat.mod_lt x (show 0 < 8 by decide))
 unfold bits_Eye_one
 dsimp only
 rw [show Int.toNat ((x : Int) / 8) = x / 8 by omega,pk_at (by omega),show (x : Int) % 8 = ((x % 8 : Nat) : Int) by omega]
 refine gd_eq ⟨by omega,by rw [pk_len]; omega⟩ ?_
 rw [ha,hb]
 rcases hM x with e | e
 ·rw [e]; rfl
 ·rw [e]; rfl
theorem eye_w {M : List Int} {n k x : Nat} (hM : Bit M) (hn : n ≤ 600) (hk : k ≤ 32) (hx : x + k ≤ 8 * n) : bits_Eye_Front_2 5000 k x 0 (pk n M) = some (num ((List.range k).map fun i=>b1 M (x + i)),0,((x + k : Nat) : Int)):=by
 have hm : bits_ends_may_2 5000 k (((pk n M).length : Nat) : Int) x 0 (pk n M) = some 0:=by
  refine bif_eq_f (by rw [decide_eq_false (by omega),decide_eq_false (by omega)]; rfl) (bnd_eq (x:=8 * (n : Int) - x) ?_ (bif_eq_f (decide_eq_false (by omega)) rfl))
  unfold bits_ends_left_2
  dsimp only
  rw [pk_len,kw64 (x:=8 * (n : Int)) (by omega) (by omega),kw64 (x:=8 * (n : Int) - x) (by omega) (by omega),Int.sub_zero,kw64 (by omega) (by omega)]
 have hB : Bit ((List.range k).map fun i=>b1 M (x + i)):=fun i=>by
  by_cases e : i < k
  ·have : b1 ((List.range k).map fun i=>b1 M (x + i)) i = b1 M (x + i):=by
    show ((List.range k).map fun i=>b1 M (x + i)).getD i 0 = _
    rw [List.getD_eq_getElem?_getD,List.getElem?_eq_getElem (by simpa using e)]; simp
   rw [this]; exact hM _
  ·exact .inl (b1_out (by simp; omega))
 refine bnd_eq hm (bif_eq_f rfl ?_)
 generalize hW : ((List.range k).map fun i=>b1 M (x + i)) = W at *
 have hWl : W.length = k:=by rw [← hW]; simp
 have hWi : ∀ i,i < k → W.take (i + 1) = W.take i ++ [b1 M (x + i)]:=fun i hi=>by
  rw [List.take_add_one,← hW,List.getElem?_eq_getElem (by simpa using hi)]; simp
 have key : ∀ (j m i : Nat),j < m → i + j = k → bits_Eye_Front_2.l0 5000 k 0 (pk n M) m (num (W.take i)) i ((x + i : Nat) : Int) = some (num W,((x + k : Nat) : Int)):=by
  intro j
  induction j with
  | zero =>
   intro m i hm hi
   obtain ⟨m,rfl⟩ : ∃ q,m = q + 1:=⟨m - 1,by omega⟩
   show bits_Eye_Front_2.r0 5000 k 0 (pk n M) (bits_Eye_Front_2.l0 5000 k 0 (pk n M) m) (num (W.take i)) (i : Int) ((x + i : Nat) : Int) = _
   unfold bits_Eye_Front_2.r0
   refine bif_eq_f (decide_eq_false (by omega)) ?_
   rw [List.take_of_length_le (by omega),show i = k by omega]
  | succ j ih =>
   intro m i hm hi
   obtain ⟨m,rfl⟩ : ∃ q,m = q + 1:=⟨m - 1,by omega⟩
   have ih:=ih m (i + 1) (by omega) (by omega)
   have hr:=num_r hB i
   have hr2 : num (W.take i) < 2147483648:=Int.lt_of_lt_of_le hr.2 (p2le (t:=31) (by omega))
   show bits_Eye_Front_2.r0 5000 k 0 (pk n M) (bits_Eye_Front_2.l0 5000 k 0 (pk n M) m) (num (W.take i)) (i : Int) ((x + i : Nat) : Int) = _
   unfold bits_Eye_Front_2.r0
   refine bif_eq_t (decide_eq_true (by omega)) (bnd_eq (ahead2_w (by omega) (by omega) _) (bnd_eq (one_w hM (by omega) hn _ _) ?_))
   dsimp only
   rw [or32 hr.1 hr2 (hM _),kw1 (by omega) (by omega),← num_app,← hWi i (by omega)]
   exact ih
 have h0:=key k 5000 0 (by omega) (by omega)
 exact bnd_eq h0 rfl
def numsB (M : List Int) (x k n : Nat) : List Int:=(List.range n).map fun i=>num ((List.range k).map fun t=>b1 M (x + i * k + t))
theorem takeW {M : List Int} {n k x c : Nat} (hM : Bit M) (hn : n ≤ 600) (hk : k ≤ 32) (hc : c ≤ 100) (hx : x + c * k ≤ 8 * n) : subband_take_2 5000 c k x 0 (pk n M) = some (numsB M x k c,((x + c * k : Nat) : Int)):=by
 have hnl : (numsB M x k c).length = c:=by simp [numsB]
 have hrep : (List.replicate (Int.toNat (c : Int)) (0 : Int)).length = c:=by simp
 have key : ∀ (j m i : Nat),j < m → i + j = c → subband_take_2.l0 5000 k (c : Int) 0 (pk n M) m i ((x + i * k : Nat) : Int) ((numsB M x k c).take i ++ List.replicate (c - i) 0) = some (((x + c * k : Nat) : Int),numsB M x k c):=by
  intro j
  induction j with
  | zero =>
   intro m i hm hi
   obtain ⟨m,rfl⟩ : ∃ q,m = q + 1:=⟨m - 1,by omega⟩
   have e : i = c:=by omega
   subst e
   show subband_take_2.r0 5000 k (i : Int) 0 (pk n M) (subband_take_2.l0 5000 k (i : Int) 0 (pk n M) m) (i : Int) ((x + i * k : Nat) : Int) _ = _
   unfold subband_take_2.r0
   refine bif_eq_f (decide_eq_false (by omega)) ?_
   rw [Nat.sub_self,List.take_of_length_le (by omega)]; simp
  | succ j ih =>
   intro m i hm hi
   obtain ⟨m,rfl⟩ : ∃ q,m = q + 1:=⟨m - 1,by omega⟩
   have ih:=ih m (i + 1) (by omega) (by omega)
   have hmul : i * k + k ≤ c * k:=by
    have:=Nat.mul_le_mul_right k (show i + 1 ≤ c by omega)
    rw [Nat.add_mul,Nat.one_mul] at this; exact this
   have hey:=eye_w (M:=M) (n:=n) (k:=k) (x:=x + i * k) hM hn hk (by omega)
   have hW : Bit ((List.range k).map fun t=>b1 M (x + i * k + t)):=fun q=>by
    by_cases e : q < k
    ·have : b1 ((List.range k).map fun t=>b1 M (x + i * k + t)) q = b1 M (x + i * k + q):=by
      show ((List.range k).map fun t=>b1 M (x + i * k + t)).getD q 0 = _
      rw [List.getD_eq_getElem?_getD,List.getElem?_eq_getElem (by simpa using e)]; simp
     rw [this]; exact hM _
    ·exact .inl (b1_out (by simp; omega))
   have hnr:=num_r hW k
   rw [List.take_of_length_le (by simp)] at hnr
   have h32 : (2 : Int) ^ k ≤ 2 ^ 32:=p2le hk
   have hnr2 : num ((List.range k).map fun t=>b1 M (x + i * k + t)) < 4294967296:=Int.lt_of_lt_of_le hnr.2 h32
   show subband_take_2.r0 5000 k (c : Int) 0 (pk n M) (subband_take_2.l0 5000 k (c : Int) 0 (pk n M) m) (i : Int) ((x + i * k : Nat) : Int) ((numsB M x k c).take i ++ List.replicate (c - i) 0) = _
   unfold subband_take_2.r0
   have hll : ((numsB M x k c).take i ++ List.replicate (c - i) (0 : Int)).length = c:=by rw [List.length_append,List.length_take,List.length_replicate,hnl]; omega
   refine bif_eq_t (decide_eq_true (by omega)) (bnd_eq hey ?_)
   dsimp only
   refine gd_eq ⟨by omega,by rw [hll]; omega,by rw [hll]; omega⟩ ?_
   rw [kw1 (by omega) (by omega),kw64 (by omega) (by omega),show Int.toNat (i : Int) = i from rfl]
   have e1 : ((numsB M x k c).take i ++ List.replicate (c - i) (0 : Int)).set i (num ((List.range k).map fun t=>b1 M (x + i * k + t))) = (numsB M x k c).take (i + 1) ++ List.replicate (c - (i + 1)) 0:=by
    have hg : (numsB M x k c)[i]? = some (num ((List.range k).map fun t=>b1 M (x + i * k + t))):=by
     unfold numsB; rw [List.getElem?_eq_getElem (by simp; omega)]; simp
    rw [List.take_add_one,hg,List.set_append_right _ _ (by rw [List.length_take]; omega),show i - ((numsB M x k c).take i).length = 0 by rw [List.length_take]; omega]
    rw [show c - i = (c - (i + 1)) + 1 by omega,List.replicate_succ]
    simp
   rw [e1,show x + i * k + k = x + (i + 1) * k by rw [Nat.add_mul,Nat.one_mul,Nat.add_assoc]]
   exact ih
 refine gd_eq ⟨by omega,by omega,by omega⟩ ?_
 dsimp only
 rw [hrep]
 have h0:=key c 5000 0 (by omega) (by omega)
 rw [Nat.zero_mul,Nat.add_zero,List.take_zero,List.nil_append,Nat.sub_zero] at h0
 exact bnd_eq h0 rfl
theorem num_bn {v : Int} {k : Nat} (h0 : 0 ≤ v) (h1 : v < 2 ^ k) : num (bn v k) = v:=by
 have key : ∀ i,i ≤ k → num ((bn v k).take i) = v / 2 ^ (k - i):=by
  intro i
  induction i with
  | zero=>intro _; rw [List.take_zero,Nat.sub_zero,Int.ediv_eq_zero_of_lt h0 h1]; rfl
  | succ i ih =>
   intro hi
   rw [bn_take (by omega),num_app,ih (by omega),show k - i = (k - (i + 1)) + 1 by omega,Int.pow_succ,show k - 1 - i = k - (i + 1) by omega]
   have : v / (2 ^ (k - (i + 1)) * 2) = v / 2 ^ (k - (i + 1)) / 2:=(Int.ediv_ediv_of_nonneg (Int.pow_nonneg (by decide))).symm
   rw [this]; omega
 have:=key k (Nat.le_refl _)
 rw [List.take_of_length_le (by rw [bn_len]; omega),Nat.sub_self] at this
 rw [this]; simp
end Go.Fo
