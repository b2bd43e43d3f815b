/- What a splitter tells of a block,and what it holds behind it. -/
import Derived.Test.YtdfoifpmghandadGreatSlWv
import Derived.Test.YtdfoifpmghandadGreatJ3
import Derived.KernelRfl
namespace Go.Fo
set_option maxRecDepth 6000

def sat32v (x : Int) : Int:=if x < -2147483648 then -2147483648 else if x > 2147483647 then 2147483647 else x
theorem sat32v_b (x : Int) : -2147483648 ≤ sat32v x ∧ sat32v x ≤ 2147483647:=by
 unfold sat32v
 split
 ·omega
 ·split <;> omega
theorem rounded_w (K : Nat) {n s : Int} (h0 : -9223372036854775808 ≤ n) (h1 : n ≤ 9223372036854775807) (hs : 1 ≤ s) (hs2 : s ≤ 62) : poly_rounded K n s = some (sat32v (rnd n s.toNat)):=by
 refine bnd_eq (fround_w K h0 h1 hs hs2) ?_
 have hb:=sat32v_b (rnd n s.toNat)
 have hw : fix_within_int64 K (rnd n s.toNat) (-2147483648) 2147483647 = some (sat32v (rnd n s.toNat)):=by
  unfold fix_within_int64 sat32v
  by_cases a : rnd n s.toNat < -2147483648
  ·rw [if_pos a]; exact bif_eq_t (decide_eq_true a) rfl
  ·rw [if_neg a]
   refine bif_eq_f (decide_eq_false a) ?_
   by_cases b : rnd n s.toNat > 2147483647
   ·rw [if_pos b]; exact bif_eq_t (decide_eq_true b) rfl
   ·rw [if_neg b]; exact bif_eq_f (decide_eq_false b) rfl
 refine bnd_eq (x:=sat32v (rnd n s.toNat)) ?_ ?_
 ·refine bnd_eq hw ?_
  rw [kw_i32 hb.1 hb.2]
 ·rw [kw_i64 (by omega) (by omega)]

def wv (m : Nat) (turn : List Int) (a b : Int) : Int:=kwrap .i64 (turn.getD (a * b % (8 * m)).toNat 0)
theorem tmm (x : Int) {d : Int} (hd : 1 ≤ d) : Int.tmod (Int.tmod x d + d) d = x % d:=by
 have h1:=Int.mul_tdiv_add_tmod x d
 have:=Int.lt_tmod_of_pos x (b:=d) (by omega)
 have:=Int.tmod_lt_of_pos x (b:=d) (by omega)
 rw [Int.tmod_eq_emod_of_nonneg (by omega),Int.add_emod_right]
 conv=>rhs; rw [← h1]
 rw [Int.add_comm,Int.add_mul_emod_self_left]
theorem wave_w (K m : Nat) (hm : m = 4 ∨ m = 8) (h turn x : List Int) (ht : turn.length = 8 * m) {a b : Int} (ha : -9000000 ≤ a * b) (hb : a * b ≤ 9000000) : poly_bands_wave K a b (m : Int) h turn x = some (wv m turn a b):=by
 have hd : kwrap .i64 (8 * (m : Int)) = 8 * (m : Int):=kw_i64 (by omega) (by omega)
 have e1:=Int.lt_tmod_of_pos (a * b) (b:=8 * (m : Int)) (by omega)
 have e2:=Int.tmod_lt_of_pos (a * b) (b:=8 * (m : Int)) (by omega)
 have e3:=Int.emod_nonneg (a * b) (b:=8 * (m : Int)) (by omega)
 have e4:=Int.emod_lt_of_pos (a * b) (b:=8 * (m : Int)) (by omega)
 unfold poly_bands_wave
 rw [hd,kw_i64 (x:=a * b) (by omega) (by omega)]
 refine gd_eq (by omega) ?_
 rw [kw_i64 (x:=Int.tmod (a * b) (8 * (m : Int)) + 8 * (m : Int)) (by omega) (by omega)]
 dsimp only
 rw [tmm _ (by omega)]
 refine gd_eq (by omega) ?_
 exact gd_eq (by rw [ht]; omega) rfl


def sat16v (x : Int) : Int:=if x < -32768 then -32768 else if x > 32767 then 32767 else x
theorem sat16v_b (x : Int) : -32768 ≤ sat16v x ∧ sat16v x ≤ 32767:=by
 unfold sat16v
 split
 ·omega
 ·split <;> omega
theorem fsat16_w (K : Nat) (x : Int) : fix_Sat16 K x = some (sat16v x):=by
 have hb:=sat16v_b x
 refine bnd_eq (x:=sat16v x) ?_ ?_
 ·unfold fix_within_int64 sat16v
  by_cases a : x < -32768
  ·rw [if_pos a]; exact bif_eq_t (decide_eq_true a) rfl
  ·rw [if_neg a]
   refine bif_eq_f (decide_eq_false a) ?_
   by_cases b : x > 32767
   ·rw [if_pos b]; exact bif_eq_t (decide_eq_true b) rfl
   ·rw [if_neg b]; exact bif_eq_f (decide_eq_false b) rfl
 ·rw [kw_i16 hb.1 hb.2]
def vacc (m : Nat) (turn s : List Int) (k : Nat) : Int:=accf (fun i a=>kwrap .i64 (a + kwrap .i64 (kwrap .i64 (s.getD i 0) * wv m turn (2 * (i : Int) + 1) (2 * (k : Int) + (m : Int))))) 0 m
def vk (m : Nat) (turn s : List Int) (k : Nat) : Int:=sat32v (rnd (vacc m turn s k) 15)
def jx (m : Nat) (turn s V : List Int) : List Int:=tabOf (vk m turn s) (2 * m) ++ V.take (18 * m)
theorem jx_len {m : Nat} {turn s V : List Int} (hV : V.length = 20 * m) : (jx m turn s V).length = 20 * m:=by
 unfold jx; rw [List.length_append,tabOf_len,List.length_take]; omega
theorem acc_b {g : Nat → Int → Int} {s : Int} (n : Nat) (hn : 1 ≤ n) (hg : ∀ k x,∃ y,g k x = kwrap .i64 y) : -9223372036854775808 ≤ accf g s n ∧ accf g s n ≤ 9223372036854775807:=by
 obtain ⟨q,hq⟩ : ∃ q,n = q + 1:=⟨n - 1,by omega⟩
 rw [hq]
 obtain ⟨y,hy⟩:=hg q (accf g s q)
 show -9223372036854775808 ≤ g q (accf g s q) ∧ _
 rw [hy]
 exact ⟨(kwb y).1,by show g q (accf g s q) ≤ _; rw [hy]; exact (kwb y).2⟩
theorem jfeed_v (K m : Nat) (hK : 100 ≤ K) (hm : m = 4 ∨ m = 8) (s h turn V : List Int) (hs : s.length = m) (ht : turn.length = 8 * m) (hV : V.length = 20 * m) :
  poly_Joiner_Feed.l2 K s (m : Int) ((2 * m : Nat) : Int) h turn K 0 (cpy (2 * m) V V) = some (jx m turn s V):=by
 have hl : (cpy (2 * m) V V).length = 20 * m:=by unfold cpy; simp; omega
 have hd : (cpy (2 * m) V V).drop (2 * m) = V.take (18 * m):=by
  unfold cpy
  have : (V.take (2 * m)).length = 2 * m:=by rw [List.length_take]; omega
  rw [List.drop_append,List.drop_of_length_le (by omega),List.nil_append,this,Nat.sub_self,List.drop_zero,List.drop_of_length_le (l:=V) (by omega),List.append_nil,hV,show 20 * m - 2 * m = 18 * m by omega]
 refine over_loop0 (2 * m) (vk m turn s) _ _ (by omega) (fun next k xs hk hxs=>?_) (fun next=>?_) (by omega)
 ·unfold poly_Joiner_Feed.r2
  refine bif_eq_t (decide_eq_true (by omega)) ?_
  refine bnd_eq (x:=vacc m turn s k) ?_ ?_
  ·refine acc_loop0 m (fun i a=>kwrap .i64 (a + kwrap .i64 (kwrap .i64 (s.getD i 0) * wv m turn (2 * (i : Int) + 1) (2 * (k : Int) + (m : Int))))) 0 _ (fun next i a hi=>?_) (fun next=>?_) (by omega)
   ·unfold poly_Joiner_Feed.r3
    refine bif_eq_t (decide_eq_true (by rw [hs]; omega)) ?_
    refine gd_eq (by rw [hs]; omega) ?_
    rw [kw_i64 (x:=2 * (i : Int)) (by omega) (by omega)]
    try dsimp only
    rw [kw_i64 (x:=2 * (i : Int) + 1) (by omega) (by omega),kw_i64 (x:=2 * (k : Int)) (by omega) (by omega)]
    rw [kw_i64 (x:=2 * (k : Int) + (m : Int)) (by omega) (by omega)]
    have hb1 : 0 ≤ 2 * (i : Int) + 1 ∧ 2 * (i : Int) + 1 ≤ 17:=by omega
    have hb2 : 0 ≤ 2 * (k : Int) + (m : Int) ∧ 2 * (k : Int) + (m : Int) ≤ 64:=by omega
    have p1 : (2 * (i : Int) + 1) * (2 * (k : Int) + (m : Int)) ≤ (2 * (i : Int) + 1) * 64:=Int.mul_le_mul_of_nonneg_left hb2.2 hb1.1
    have p2 : 0 ≤ (2 * (i : Int) + 1) * (2 * (k : Int) + (m : Int)):=Int.mul_nonneg hb1.1 hb2.1
    refine bnd_eq (wave_w K m hm h turn _ ht (by omega) (by omega)) ?_
    rw [kw_i64 (x:=(i : Int) + 1) (by omega) (by omega),Int.toNat_natCast]
    rfl
   ·unfold poly_Joiner_Feed.r3
    exact bif_eq_f (decide_eq_false (by rw [hs]; omega)) rfl
  ·have hb:=acc_b (g:=fun i a=>kwrap .i64 (a + kwrap .i64 (kwrap .i64 (s.getD i 0) * wv m turn (2 * (i : Int) + 1) (2 * (k : Int) + (m : Int))))) (s:=0) m (by omega) (fun k x=>⟨_,rfl⟩)
   refine bnd_eq (rounded_w K hb.1 hb.2 (by decide) (by decide)) ?_
   refine gd_eq (by rw [hxs,hl]; omega) ?_
   refine gd_eq (by rw [hxs,hl]; omega) ?_
   rw [kw_i64 (x:=(k : Int) + 1) (by omega) (by omega),Int.toNat_natCast]
   rfl
 ·unfold poly_Joiner_Feed.r2
  rw [hd]
  exact bif_eq_f (decide_eq_false (by omega)) rfl
def jt (m : Nat) (h V : List Int) (at_ i : Nat) : Int:=kwrap .i64 (kwrap .i64 (V.getD (4 * m * i + at_) 0 * kwrap .i64 (h.getD (2 * m * i + at_) 0)) + kwrap .i64 (V.getD (4 * m * i + 3 * m + at_) 0 * kwrap .i64 (h.getD (2 * m * i + m + at_) 0)))
def jacc (m : Nat) (h V : List Int) (at_ : Nat) : Int:=accf (fun i a=>kwrap .i64 (jt m h V at_ i - a)) 0 5
def jv (m : Nat) (h V : List Int) (at_ : Nat) : Int:=sat16v (rnd (jacc m h V at_) 14)
theorem jfeed_o (K m : Nat) (hK : 100 ≤ K) (hm : m = 4 ∨ m = 8) (h turn V : List Int) (hh : h.length = 10 * m) (hV : V.length = 20 * m) :
  poly_Joiner_Feed.l0 K (m : Int) (m : Int) h turn V K 0 (List.replicate m 0) = some (tabOf (jv m h V) m):=by
 refine fill_loop0 m (jv m h V) 0 _ (fun next j xs hj hxs=>?_) (fun next=>?_) (by omega)
 ·unfold poly_Joiner_Feed.r0
  refine bif_eq_t (decide_eq_true (by omega)) ?_
  refine bnd_eq (x:=jacc m h V j) ?_ ?_
  ·refine acc_loop0 5 (fun i a=>kwrap .i64 (jt m h V j i - a)) 0 _ (fun next i a hi=>?_) (fun next=>?_) (by omega)
   ·unfold poly_Joiner_Feed.r1
    refine bif_eq_t (decide_eq_true (by omega)) ?_
    have hb1 : 4 * m * i + 3 * m + j < 20 * m:=by rcases hm with rfl | rfl <;> omega
    have hb2 : 2 * m * i + m + j < 10 * m:=by rcases hm with rfl | rfl <;> omega
    have e1 : (4 * (m : Int)) * (i : Int) = ((4 * m * i : Nat) : Int):=by simp
    have e2 : (2 * (m : Int)) * (i : Int) = ((2 * m * i : Nat) : Int):=by simp
    rw [kw_i64 (x:=4 * (m : Int)) (by omega) (by omega),kw_i64 (x:=2 * (m : Int)) (by omega) (by omega),kw_i64 (x:=3 * (m : Int)) (by omega) (by omega)]
    try dsimp only
    rw [e1,e2,kw_i64 (x:=((4 * m * i : Nat) : Int)) (by omega) (by omega),kw_i64 (x:=((2 * m * i : Nat) : Int)) (by omega) (by omega)]
    try dsimp only
    rw [kw_i64 (x:=((4 * m * i : Nat) : Int) + (j : Int)) (by omega) (by omega),kw_i64 (x:=((2 * m * i : Nat) : Int) + (j : Int)) (by omega) (by omega),kw_i64 (x:=((4 * m * i : Nat) : Int) + 3 * (m : Int)) (by omega) (by omega),kw_i64 (x:=((2 * m * i : Nat) : Int) + (m : Int)) (by omega) (by omega)]
    try dsimp only
    rw [kw_i64 (x:=((4 * m * i : Nat) : Int) + 3 * (m : Int) + (j : Int)) (by omega) (by omega),kw_i64 (x:=((2 * m * i : Nat) : Int) + (m : Int) + (j : Int)) (by omega) (by omega)]
    refine gd_eq (by omega) ?_
    refine gd_eq (by omega) ?_
    refine gd_eq (by omega) ?_
    refine gd_eq (by omega) ?_
    refine gd_eq (by omega) ?_
    refine gd_eq (by omega) ?_
    rw [kw_i64 (x:=(i : Int) + 1) (by omega) (by omega),show (((4 * m * i : Nat) : Int) + (j : Int)).toNat = 4 * m * i + j by omega,show (((2 * m * i : Nat) : Int) + (j : Int)).toNat = 2 * m * i + j by omega,
     show (((4 * m * i : Nat) : Int) + 3 * (m : Int) + (j : Int)).toNat = 4 * m * i + 3 * m + j by omega,show (((2 * m * i : Nat) : Int) + (m : Int) + (j : Int)).toNat = 2 * m * i + m + j by omega]
    rfl
   ·unfold poly_Joiner_Feed.r1
    exact bif_eq_f (by decide) rfl
  ·have hb:=acc_b (g:=fun i a=>kwrap .i64 (jt m h V j i - a)) (s:=0) 5 (by omega) (fun k x=>⟨_,rfl⟩)
   refine bnd_eq (fround_w K hb.1 hb.2 (by decide) (by decide)) ?_
   refine bnd_eq (fsat16_w K _) ?_
   refine gd_eq (by rw [hxs]; omega) ?_
   rw [kw_i64 (x:=(j : Int) + 1) (by omega) (by omega),Int.toNat_natCast]
   rfl
 ·unfold poly_Joiner_Feed.r0
  exact bif_eq_f (decide_eq_false (by omega)) rfl
def jnl (m : Nat) (h V : List Int) : List Int:=tabOf (jv m h V) m
theorem jfeed_w (K m : Nat) (hK : 100 ≤ K) (hm : m = 4 ∨ m = 8) (s h turn V : List Int) (hs : s.length = m) (hh : h.length = 10 * m) (ht : turn.length = 8 * m) (hV : V.length = 20 * m) :
  poly_Joiner_Feed K s (m : Int) h turn V = some (jnl m h (jx m turn s V),0,jx m turn s V):=by
 unfold poly_Joiner_Feed
 refine bif_eq_f (by rw [hs]; simp) ?_
 have e1 : kwrap .i64 (2 * (m : Int)) = ((2 * m : Nat) : Int):=by rw [kw_i64 (by omega) (by omega)]; omega
 rw [e1]
 dsimp only
 refine gd_eq (by rw [hV]; omega) ?_
 rw [Int.toNat_natCast]
 refine gd_eq (by rw [hV]; omega) ?_
 refine bnd_eq (jfeed_v K m hK hm s h turn V hs ht hV) ?_
 refine gd_eq (by omega) ?_
 rw [Int.toNat_natCast,List.length_replicate]
 refine bnd_eq (jfeed_o K m hK hm h turn _ hh (jx_len hV)) rfl
end Go.Fo
