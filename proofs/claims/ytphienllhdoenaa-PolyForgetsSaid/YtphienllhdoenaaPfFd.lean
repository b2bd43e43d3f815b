/- What a splitter tells of a block, and what it holds behind it. -/
import Derived.Test.YtphienllhdoenaaPfWv
import Derived.Test.YtphienllhdoenaaJ3
import Derived.KernelRfl
namespace Go.Fo
set_option maxRecDepth 6000

def sat32v (x : Int) : Int := if x < -2147483648 then -2147483648 else if x > 2147483647 then 2147483647 else x
theorem sat32v_b (x : Int) : -2147483648 ≤ sat32v x ∧ sat32v x ≤ 2147483647 := by
  unfold sat32v
  split
  · omega
  · split <;> omega
theorem rnd_b {x : Int} {s : Nat} (h0 : -9223372036854775808 ≤ x) (h1 : x ≤ 9223372036854775807) : -9223372036854775808 ≤ rnd x s ∧ rnd x s ≤ 9223372036854775807 := by
  unfold rnd
  have hp := two_pow_pos (s - 1)
  obtain ⟨b1, b2⟩ := ediv_abs (n := x) (d := 2 ^ (s - 1)) (by omega) (a := 9223372036854775808) (by omega) (by omega)
  omega
theorem rounded_w (K : Nat) {n s : Int} (h0 : -9223372036854775808 ≤ n) (h1 : n ≤ 9223372036854775807) (hs : 1 ≤ s) (hs2 : s ≤ 62) : poly_rounded K n s = some (sat32v (rnd n s.toNat)) := by
  refine bnd_eq (fround_w K h0 h1 hs hs2) ?_
  have hb := sat32v_b (rnd n s.toNat)
  have hw : fix_within_int64 K (rnd n s.toNat) (-2147483648) 2147483647 = some (sat32v (rnd n s.toNat)) := by
    unfold fix_within_int64 sat32v
    by_cases a : rnd n s.toNat < -2147483648
    · rw [if_pos a]; exact bif_eq_t (decide_eq_true a) rfl
    · rw [if_neg a]
      refine bif_eq_f (decide_eq_false a) ?_
      by_cases b : rnd n s.toNat > 2147483647
      · rw [if_pos b]; exact bif_eq_t (decide_eq_true b) rfl
      · rw [if_neg b]; exact bif_eq_f (decide_eq_false b) rfl
  refine bnd_eq (x := sat32v (rnd n s.toNat)) ?_ ?_
  · refine bnd_eq hw ?_
    rw [kw_i32 hb.1 hb.2]
  · rw [kw_i64 (by omega) (by omega)]

/-- the wave's number -/
def wv (m : Nat) (turn : List Int) (a b : Int) : Int := kwrap .i64 (turn.getD (a * b % (8 * m)).toNat 0)
theorem tmm (x : Int) {d : Int} (hd : 1 ≤ d) : Int.tmod (Int.tmod x d + d) d = x % d := by
  have h1 := Int.mul_tdiv_add_tmod x d
  have := Int.lt_tmod_of_pos x (b := d) (by omega)
  have := Int.tmod_lt_of_pos x (b := d) (by omega)
  rw [Int.tmod_eq_emod_of_nonneg (by omega), Int.add_emod_right]
  conv => rhs; rw [← h1]
  rw [Int.add_comm, Int.add_mul_emod_self_left]
theorem wave_w (K m : Nat) (hm : m = 4 ∨ m = 8) (h turn x : List Int) (ht : turn.length = 8 * m) {a b : Int} (ha : -9000000 ≤ a * b) (hb : a * b ≤ 9000000) : poly_bands_wave K a b (m : Int) h turn x = some (wv m turn a b) := by
  have hd : kwrap .i64 (8 * (m : Int)) = 8 * (m : Int) := kw_i64 (by omega) (by omega)
  have e1 := Int.lt_tmod_of_pos (a * b) (b := 8 * (m : Int)) (by omega)
  have e2 := Int.tmod_lt_of_pos (a * b) (b := 8 * (m : Int)) (by omega)
  have e3 := Int.emod_nonneg (a * b) (b := 8 * (m : Int)) (by omega)
  have e4 := Int.emod_lt_of_pos (a * b) (b := 8 * (m : Int)) (by omega)
  unfold poly_bands_wave
  rw [hd, kw_i64 (x := a * b) (by omega) (by omega)]
  refine gd_eq (by omega) ?_
  rw [kw_i64 (x := Int.tmod (a * b) (8 * (m : Int)) + 8 * (m : Int)) (by omega) (by omega)]
  dsimp only
  rw [tmm _ (by omega)]
  refine gd_eq (by omega) ?_
  exact gd_eq (by rw [ht]; omega) rfl

/-- the block goes ahead -/
def nx (m : Nat) (b X : List Int) : List Int := (b.map (kwrap .i64)).reverse ++ X.take (9 * m)
theorem nx_len {m : Nat} {b X : List Int} (hb : b.length = m) (hX : X.length = 10 * m) : (nx m b X).length = 10 * m := by
  unfold nx; rw [List.length_append, List.length_reverse, List.length_map, List.length_take]; omega
theorem in_acc (m : Nat) (b : List Int) (Z : List Int) (hb : b.length = m) (hZ : m ≤ Z.length) : ∀ k, k ≤ m → accf (fun k xs => List.set xs (m - 1 - k) (kwrap .i64 (b.getD k 0))) Z k = Z.take (m - k) ++ (((b.take k).map (kwrap .i64)).reverse ++ Z.drop m)
  | 0, _ => by simp [accf]
  | k + 1, h => by
    show List.set (accf _ Z k) (m - 1 - k) (kwrap .i64 (b.getD k 0)) = _
    rw [in_acc m b Z hb hZ k (by omega)]
    have e1 : Z.take (m - k) = Z.take (m - (k + 1)) ++ [Z.getD (m - 1 - k) 0] := by
      rw [show m - k = (m - (k + 1)) + 1 by omega, List.take_add_one, show m - 1 - k = m - (k + 1) by omega, List.getD_eq_getElem?_getD]
      congr 1
      rw [List.getElem?_eq_getElem (by omega)]; rfl
    have e2 : b.take (k + 1) = b.take k ++ [b.getD k 0] := by
      rw [List.take_add_one, List.getD_eq_getElem?_getD]
      congr 1
      rw [List.getElem?_eq_getElem (by omega)]; rfl
    have hl : (Z.take (m - (k + 1))).length = m - 1 - k := by rw [List.length_take]; omega
    rw [e1, e2, List.append_assoc, List.set_append_right _ _ (by omega), hl, Nat.sub_self, List.map_append, List.reverse_append]
    simp
theorem feed_in (K m : Nat) (hK : 100 ≤ K) (hm : m = 4 ∨ m = 8) (b h turn X : List Int) (hb : b.length = m) (hX : X.length = 10 * m) :
    poly_Splitter_Feed.l4 K b (m : Int) (m : Int) h turn K 0 (cpy m X X) = some (nx m b X) := by
  have hl : (cpy m X X).length = 10 * m := by unfold cpy; simp; omega
  have hZ : ∀ k, k ≤ m → (accf (fun k xs => List.set xs (m - 1 - k) (kwrap .i64 (b.getD k 0))) (cpy m X X) k).length = 10 * m := by
    intro k hk
    rw [in_acc m b _ hb (by omega) k hk]; simp; omega
  have := it_loop0 (r := poly_Splitter_Feed.r4 K b (m : Int) (m : Int) h turn) (b := fun _ _ => none) m (fun k xs => List.set xs (m - 1 - k) (kwrap .i64 (b.getD k 0))) (cpy m X X) (some (nx m b X)) (fun next k hk => ?_) (fun next => ?_) (K := K) (by omega)
  · exact this
  · refine bif_eq_t (decide_eq_true (by omega)) ?_
    refine gd_eq (by rw [hb]; omega) ?_
    have e1 : kwrap .i64 ((m : Int) - 1) = (m : Int) - 1 := kw_i64 (by omega) (by omega)
    have e2 : kwrap .i64 ((m : Int) - 1 - (k : Int)) = (m : Int) - 1 - (k : Int) := kw_i64 (by omega) (by omega)
    rw [e1]
    dsimp only
    rw [e2]
    refine gd_eq (by rw [hZ k (by omega)]; omega) ?_
    refine gd_eq (by rw [hZ k (by omega)]; omega) ?_
    rw [kw_i64 (x := (k : Int) + 1) (by omega) (by omega), show ((m : Int) - 1 - (k : Int)).toNat = m - 1 - k by omega]
    rfl
  · refine bif_eq_f (decide_eq_false (by omega)) ?_
    rw [in_acc m b _ hb (by omega) m (Nat.le_refl _)]
    congr 1
    have e3 : (cpy m X X).drop m = X.take (9 * m) := by
      unfold cpy
      have : (X.take m).length = m := by rw [List.length_take]; omega
      rw [List.drop_append, List.drop_of_length_le (by omega), List.nil_append, this, Nat.sub_self, List.drop_zero, List.drop_of_length_le (l := X) (by omega), List.append_nil, hX, show 10 * m - m = 9 * m by omega]
    rw [Nat.sub_self, List.take_zero, List.nil_append, e3, List.take_of_length_le (by omega)]
    rfl

/-- the windowed sums -/
def sacc (m : Nat) (h X : List Int) (j : Nat) : Int := accf (fun k s => kwrap .i64 (kwrap .i64 (X.getD (j + 2 * m * k) 0 * kwrap .i64 (h.getD (j + 2 * m * k) 0)) - s)) 0 5
def yv (m : Nat) (h X : List Int) (j : Nat) : Int := sat32v (rnd (kwrap .i64 (0 - sacc m h X j)) 14)
theorem feed_y (K m : Nat) (hK : 100 ≤ K) (hm : m = 4 ∨ m = 8) (h turn X : List Int) (hh : h.length = 10 * m) (hX : X.length = 10 * m) :
    poly_Splitter_Feed.l2 K ((2 * m : Nat) : Int) (m : Int) h turn X K 0 (List.replicate (2 * m) 0) = some (tabOf (yv m h X) (2 * m)) := by
  refine fill_loop0 (2 * m) (yv m h X) 0 _ (fun next j xs hj hxs => ?_) (fun next => ?_) (by omega)
  · refine bif_eq_t (decide_eq_true (by omega)) ?_
    refine bnd_eq (x := sacc m h X j) ?_ ?_
    · refine acc_loop0 5 (fun k s => kwrap .i64 (kwrap .i64 (X.getD (j + 2 * m * k) 0 * kwrap .i64 (h.getD (j + 2 * m * k) 0)) - s)) 0 _ (fun next k s hk => ?_) (fun next => ?_) (by omega)
      · refine bif_eq_t (decide_eq_true (by omega)) ?_
        have e1 : kwrap .i64 (2 * (m : Int)) = 2 * (m : Int) := kw_i64 (by omega) (by omega)
        have hb : j + 2 * m * k < 10 * m := by rcases hm with rfl | rfl <;> omega
        have e0 : (2 * (m : Int)) * (k : Int) = ((2 * m * k : Nat) : Int) := by simp
        rw [e1]
        dsimp only
        rw [e0, kw_i64 (x := ((2 * m * k : Nat) : Int)) (by omega) (by omega), kw_i64 (x := (j : Int) + ((2 * m * k : Nat) : Int)) (by omega) (by omega)]
        refine gd_eq (by rw [hX]; omega) ?_
        refine gd_eq (by rw [hX]; omega) ?_
        refine gd_eq (by rw [hh]; omega) ?_
        rw [kw_i64 (x := (k : Int) + 1) (by omega) (by omega), show ((j : Int) + ((2 * m * k : Nat) : Int)).toNat = j + 2 * m * k by omega]
        rfl
      · unfold poly_Splitter_Feed.r3
        exact bif_eq_f (by decide) rfl
    · obtain ⟨b1, b2⟩ := kwb (0 - sacc m h X j)
      refine bnd_eq (rounded_w K b1 b2 (by decide) (by decide)) ?_
      refine gd_eq (by rw [hxs]; omega) ?_
      rw [kw_i64 (x := (j : Int) + 1) (by omega) (by omega), Int.toNat_natCast]
      rfl
  · exact bif_eq_f (decide_eq_false (by omega)) rfl

def oacc (m : Nat) (turn Y : List Int) (i : Nat) : Int := accf (fun j s => kwrap .i64 (s + kwrap .i64 (Y.getD j 0 * wv m turn (2 * (i : Int) + 1) (2 * (j : Int) - (m : Int))))) 0 (2 * m)
def ov (m : Nat) (turn Y : List Int) (i : Nat) : Int := sat32v (rnd (oacc m turn Y i) (16 + m / 4))
theorem feed_o (K m : Nat) (hK : 100 ≤ K) (hm : m = 4 ∨ m = 8) (h turn X Y : List Int) (ht : turn.length = 8 * m) (hY : Y.length = 2 * m) :
    poly_Splitter_Feed.l0 K (m : Int) (m : Int) h turn X Y K 0 (List.replicate m 0) = some (tabOf (ov m turn Y) m) := by
  refine fill_loop0 m (ov m turn Y) 0 _ (fun next i xs hi hxs => ?_) (fun next => ?_) (by omega)
  · refine bif_eq_t (decide_eq_true (by omega)) ?_
    refine bnd_eq (x := oacc m turn Y i) ?_ ?_
    · refine acc_loop0 (2 * m) (fun j s => kwrap .i64 (s + kwrap .i64 (Y.getD j 0 * wv m turn (2 * (i : Int) + 1) (2 * (j : Int) - (m : Int))))) 0 _ (fun next j s hj => ?_) (fun next => ?_) (by omega)
      · refine bif_eq_t (decide_eq_true (by rw [hY]; omega)) ?_
        refine gd_eq (by rw [hY]; omega) ?_
        have e1 : kwrap .i64 (2 * (i : Int)) = 2 * (i : Int) := kw_i64 (by omega) (by omega)
        have e2 : kwrap .i64 (2 * (i : Int) + 1) = 2 * (i : Int) + 1 := kw_i64 (by omega) (by omega)
        have e3 : kwrap .i64 (2 * (j : Int)) = 2 * (j : Int) := kw_i64 (by omega) (by omega)
        have e4 : kwrap .i64 (2 * (j : Int) - (m : Int)) = 2 * (j : Int) - (m : Int) := kw_i64 (by omega) (by omega)
        rw [e1]
        dsimp only
        rw [e2, e3, e4]
        have hb1 : 0 ≤ 2 * (i : Int) + 1 ∧ 2 * (i : Int) + 1 ≤ 17 := by omega
        have hb2 : -16 ≤ 2 * (j : Int) - (m : Int) ∧ 2 * (j : Int) - (m : Int) ≤ 32 := by omega
        have p1 : (2 * (i : Int) + 1) * (2 * (j : Int) - (m : Int)) ≤ (2 * (i : Int) + 1) * 32 := Int.mul_le_mul_of_nonneg_left hb2.2 hb1.1
        have p2 : (2 * (i : Int) + 1) * (-16) ≤ (2 * (i : Int) + 1) * (2 * (j : Int) - (m : Int)) := Int.mul_le_mul_of_nonneg_left hb2.1 hb1.1
        refine bnd_eq (wave_w K m hm h turn X ht (by omega) (by omega)) ?_
        rw [kw_i64 (x := (j : Int) + 1) (by omega) (by omega), Int.toNat_natCast]
        rfl
      · exact bif_eq_f (decide_eq_false (by rw [hY]; omega)) rfl
    · have e5 : kwrap .i64 (Int.tdiv (m : Int) 4) = (m : Int) / 4 := by rw [Int.tdiv_eq_ediv_of_nonneg (by omega), kw_i64 (by omega) (by omega)]
      have e6 : kwrap .i64 (16 + (m : Int) / 4) = 16 + (m : Int) / 4 := kw_i64 (by omega) (by omega)
      rw [e5]
      dsimp only
      rw [e6]
      have hb : -9223372036854775808 ≤ oacc m turn Y i ∧ oacc m turn Y i ≤ 9223372036854775807 := by
        unfold oacc
        obtain ⟨q, hq⟩ : ∃ q, 2 * m = q + 1 := ⟨2 * m - 1, by omega⟩
        rw [hq]; exact kwb _
      refine bnd_eq (rounded_w K hb.1 hb.2 (by omega) (by omega)) ?_
      refine gd_eq (by rw [hxs]; omega) ?_
      have hs := sat32v_b (rnd (oacc m turn Y i) (16 + (m : Int) / 4).toNat)
      rw [kw_i32 hs.1 hs.2, kw_i64 (x := (i : Int) + 1) (by omega) (by omega), Int.toNat_natCast]
      have : (16 + (m : Int) / 4).toNat = 16 + m / 4 := by omega
      rw [this]
      rfl
  · exact bif_eq_f (decide_eq_false (by omega)) rfl

/-- what a splitter tells -/
def spl (m : Nat) (h turn X : List Int) : List Int := tabOf (ov m turn (tabOf (yv m h X) (2 * m))) m
theorem feed_w (K m : Nat) (hK : 100 ≤ K) (hm : m = 4 ∨ m = 8) (b h turn X : List Int) (hb : b.length = m) (hh : h.length = 10 * m) (ht : turn.length = 8 * m) (hX : X.length = 10 * m) :
    poly_Splitter_Feed K b (m : Int) h turn X = some (.inr (spl m h turn (nx m b X), nx m b X)) := by
  unfold poly_Splitter_Feed
  refine bif_eq_f (by rw [hb]; simp) ?_
  refine gd_eq (by rw [hX]; omega) ?_
  rw [Int.toNat_natCast]
  refine gd_eq (by rw [hX]; omega) ?_
  have h4 := feed_in K m hK hm b h turn X hb hX
  rw [hb]
  refine bnd_eq h4 ?_
  have e1 : kwrap .i64 (2 * (m : Int)) = ((2 * m : Nat) : Int) := by rw [kw_i64 (by omega) (by omega)]; omega
  rw [e1]
  dsimp only
  refine gd_eq (by omega) ?_
  rw [Int.toNat_natCast, List.length_replicate]
  refine bnd_eq (feed_y K m hK hm h turn _ hh (nx_len hb hX)) ?_
  refine gd_eq (by omega) ?_
  rw [List.length_replicate]
  refine bnd_eq (feed_o K m hK hm h turn _ _ ht (tabOf_len _ _)) rfl

def sat16v (x : Int) : Int := if x < -32768 then -32768 else if x > 32767 then 32767 else x
theorem sat16v_b (x : Int) : -32768 ≤ sat16v x ∧ sat16v x ≤ 32767 := by
  unfold sat16v
  split
  · omega
  · split <;> omega
theorem fsat16_w (K : Nat) (x : Int) : fix_Sat16 K x = some (sat16v x) := by
  have hb := sat16v_b x
  refine bnd_eq (x := sat16v x) ?_ ?_
  · unfold fix_within_int64 sat16v
    by_cases a : x < -32768
    · rw [if_pos a]; exact bif_eq_t (decide_eq_true a) rfl
    · rw [if_neg a]
      refine bif_eq_f (decide_eq_false a) ?_
      by_cases b : x > 32767
      · rw [if_pos b]; exact bif_eq_t (decide_eq_true b) rfl
      · rw [if_neg b]; exact bif_eq_f (decide_eq_false b) rfl
  · rw [kw_i16 hb.1 hb.2]
/-- a block of waves -/
def vacc (m : Nat) (turn s : List Int) (k : Nat) : Int := accf (fun i a => kwrap .i64 (a + kwrap .i64 (kwrap .i64 (s.getD i 0) * wv m turn (2 * (i : Int) + 1) (2 * (k : Int) + (m : Int))))) 0 m
def vk (m : Nat) (turn s : List Int) (k : Nat) : Int := sat32v (rnd (vacc m turn s k) 15)
def jx (m : Nat) (turn s V : List Int) : List Int := tabOf (vk m turn s) (2 * m) ++ V.take (18 * m)
theorem jx_len {m : Nat} {turn s V : List Int} (hV : V.length = 20 * m) : (jx m turn s V).length = 20 * m := by
  unfold jx; rw [List.length_append, tabOf_len, List.length_take]; omega
theorem acc_b {g : Nat → Int → Int} {s : Int} (n : Nat) (hn : 1 ≤ n) (hg : ∀ k x, ∃ y, g k x = kwrap .i64 y) : -9223372036854775808 ≤ accf g s n ∧ accf g s n ≤ 9223372036854775807 := by
  obtain ⟨q, hq⟩ : ∃ q, n = q + 1 := ⟨n - 1, by omega⟩
  rw [hq]
  obtain ⟨y, hy⟩ := hg q (accf g s q)
  show -9223372036854775808 ≤ g q (accf g s q) ∧ _
  rw [hy]
  exact ⟨(kwb y).1, by show g q (accf g s q) ≤ _; rw [hy]; exact (kwb y).2⟩
theorem jfeed_v (K m : Nat) (hK : 100 ≤ K) (hm : m = 4 ∨ m = 8) (s h turn V : List Int) (hs : s.length = m) (ht : turn.length = 8 * m) (hV : V.length = 20 * m) :
    poly_Joiner_Feed_2.l2 K s (m : Int) ((2 * m : Nat) : Int) h turn K 0 (cpy (2 * m) V V) = some (jx m turn s V) := by
  have hl : (cpy (2 * m) V V).length = 20 * m := by unfold cpy; simp; omega
  have hd : (cpy (2 * m) V V).drop (2 * m) = V.take (18 * m) := by
    unfold cpy
    have : (V.take (2 * m)).length = 2 * m := by rw [List.length_take]; omega
    rw [List.drop_append, List.drop_of_length_le (by omega), List.nil_append, this, Nat.sub_self, List.drop_zero, List.drop_of_length_le (l := V) (by omega), List.append_nil, hV, show 20 * m - 2 * m = 18 * m by omega]
  refine over_loop0 (2 * m) (vk m turn s) _ _ (by omega) (fun next k xs hk hxs => ?_) (fun next => ?_) (by omega)
  · unfold poly_Joiner_Feed_2.r2
    refine bif_eq_t (decide_eq_true (by omega)) ?_
    refine bnd_eq (x := vacc m turn s k) ?_ ?_
    · refine acc_loop0 m (fun i a => kwrap .i64 (a + kwrap .i64 (kwrap .i64 (s.getD i 0) * wv m turn (2 * (i : Int) + 1) (2 * (k : Int) + (m : Int))))) 0 _ (fun next i a hi => ?_) (fun next => ?_) (by omega)
      · unfold poly_Joiner_Feed_2.r3
        refine bif_eq_t (decide_eq_true (by rw [hs]; omega)) ?_
        refine gd_eq (by rw [hs]; omega) ?_
        rw [kw_i64 (x := 2 * (i : Int)) (by omega) (by omega)]
        try dsimp only
        rw [kw_i64 (x := 2 * (i : Int) + 1) (by omega) (by omega), kw_i64 (x := 2 * (k : Int)) (by omega) (by omega)]
        rw [kw_i64 (x := 2 * (k : Int) + (m : Int)) (by omega) (by omega)]
        have hb1 : 0 ≤ 2 * (i : Int) + 1 ∧ 2 * (i : Int) + 1 ≤ 17 := by omega
        have hb2 : 0 ≤ 2 * (k : Int) + (m : Int) ∧ 2 * (k : Int) + (m : Int) ≤ 64 := by omega
        have p1 : (2 * (i : Int) + 1) * (2 * (k : Int) + (m : Int)) ≤ (2 * (i : Int) + 1) * 64 := Int.mul_le_mul_of_nonneg_left hb2.2 hb1.1
        have p2 : 0 ≤ (2 * (i : Int) + 1) * (2 * (k : Int) + (m : Int)) := Int.mul_nonneg hb1.1 hb2.1
        refine bnd_eq (wave_w K m hm h turn _ ht (by omega) (by omega)) ?_
        rw [kw_i64 (x := (i : Int) + 1) (by omega) (by omega), Int.toNat_natCast]
        rfl
      · unfold poly_Joiner_Feed_2.r3
        exact bif_eq_f (decide_eq_false (by rw [hs]; omega)) rfl
    · have hb := acc_b (g := fun i a => kwrap .i64 (a + kwrap .i64 (kwrap .i64 (s.getD i 0) * wv m turn (2 * (i : Int) + 1) (2 * (k : Int) + (m : Int))))) (s := 0) m (by omega) (fun k x => ⟨_, rfl⟩)
      refine bnd_eq (rounded_w K hb.1 hb.2 (by decide) (by decide)) ?_
      refine gd_eq (by rw [hxs, hl]; omega) ?_
      refine gd_eq (by rw [hxs, hl]; omega) ?_
      rw [kw_i64 (x := (k : Int) + 1) (by omega) (by omega), Int.toNat_natCast]
      rfl
  · unfold poly_Joiner_Feed_2.r2
    rw [hd]
    exact bif_eq_f (decide_eq_false (by omega)) rfl
/-- a block of samples -/
def jt (m : Nat) (h V : List Int) (at_ i : Nat) : Int := kwrap .i64 (kwrap .i64 (V.getD (4 * m * i + at_) 0 * kwrap .i64 (h.getD (2 * m * i + at_) 0)) + kwrap .i64 (V.getD (4 * m * i + 3 * m + at_) 0 * kwrap .i64 (h.getD (2 * m * i + m + at_) 0)))
def jacc (m : Nat) (h V : List Int) (at_ : Nat) : Int := accf (fun i a => kwrap .i64 (jt m h V at_ i - a)) 0 5
def jv (m : Nat) (h V : List Int) (at_ : Nat) : Int := sat16v (rnd (jacc m h V at_) 14)
theorem jfeed_o (K m : Nat) (hK : 100 ≤ K) (hm : m = 4 ∨ m = 8) (h turn V : List Int) (hh : h.length = 10 * m) (hV : V.length = 20 * m) :
    poly_Joiner_Feed_2.l0 K (m : Int) (m : Int) h turn V K 0 (List.replicate m 0) = some (tabOf (jv m h V) m) := by
  refine fill_loop0 m (jv m h V) 0 _ (fun next j xs hj hxs => ?_) (fun next => ?_) (by omega)
  · unfold poly_Joiner_Feed_2.r0
    refine bif_eq_t (decide_eq_true (by omega)) ?_
    refine bnd_eq (x := jacc m h V j) ?_ ?_
    · refine acc_loop0 5 (fun i a => kwrap .i64 (jt m h V j i - a)) 0 _ (fun next i a hi => ?_) (fun next => ?_) (by omega)
      · unfold poly_Joiner_Feed_2.r1
        refine bif_eq_t (decide_eq_true (by omega)) ?_
        have hb1 : 4 * m * i + 3 * m + j < 20 * m := by rcases hm with rfl | rfl <;> omega
        have hb2 : 2 * m * i + m + j < 10 * m := by rcases hm with rfl | rfl <;> omega
        have e1 : (4 * (m : Int)) * (i : Int) = ((4 * m * i : Nat) : Int) := by simp
        have e2 : (2 * (m : Int)) * (i : Int) = ((2 * m * i : Nat) : Int) := by simp
        rw [kw_i64 (x := 4 * (m : Int)) (by omega) (by omega), kw_i64 (x := 2 * (m : Int)) (by omega) (by omega), kw_i64 (x := 3 * (m : Int)) (by omega) (by omega)]
        try dsimp only
        rw [e1, e2, kw_i64 (x := ((4 * m * i : Nat) : Int)) (by omega) (by omega), kw_i64 (x := ((2 * m * i : Nat) : Int)) (by omega) (by omega)]
        try dsimp only
        rw [kw_i64 (x := ((4 * m * i : Nat) : Int) + (j : Int)) (by omega) (by omega), kw_i64 (x := ((2 * m * i : Nat) : Int) + (j : Int)) (by omega) (by omega), kw_i64 (x := ((4 * m * i : Nat) : Int) + 3 * (m : Int)) (by omega) (by omega), kw_i64 (x := ((2 * m * i : Nat) : Int) + (m : Int)) (by omega) (by omega)]
        try dsimp only
        rw [kw_i64 (x := ((4 * m * i : Nat) : Int) + 3 * (m : Int) + (j : Int)) (by omega) (by omega), kw_i64 (x := ((2 * m * i : Nat) : Int) + (m : Int) + (j : Int)) (by omega) (by omega)]
        refine gd_eq (by omega) ?_
        refine gd_eq (by omega) ?_
        refine gd_eq (by omega) ?_
        refine gd_eq (by omega) ?_
        refine gd_eq (by omega) ?_
        refine gd_eq (by omega) ?_
        rw [kw_i64 (x := (i : Int) + 1) (by omega) (by omega), show (((4 * m * i : Nat) : Int) + (j : Int)).toNat = 4 * m * i + j by omega, show (((2 * m * i : Nat) : Int) + (j : Int)).toNat = 2 * m * i + j by omega,
          show (((4 * m * i : Nat) : Int) + 3 * (m : Int) + (j : Int)).toNat = 4 * m * i + 3 * m + j by omega, show (((2 * m * i : Nat) : Int) + (m : Int) + (j : Int)).toNat = 2 * m * i + m + j by omega]
        rfl
      · unfold poly_Joiner_Feed_2.r1
        exact bif_eq_f (by decide) rfl
    · have hb := acc_b (g := fun i a => kwrap .i64 (jt m h V j i - a)) (s := 0) 5 (by omega) (fun k x => ⟨_, rfl⟩)
      refine bnd_eq (fround_w K hb.1 hb.2 (by decide) (by decide)) ?_
      refine bnd_eq (fsat16_w K _) ?_
      refine gd_eq (by rw [hxs]; omega) ?_
      rw [kw_i64 (x := (j : Int) + 1) (by omega) (by omega), Int.toNat_natCast]
      rfl
  · unfold poly_Joiner_Feed_2.r0
    exact bif_eq_f (decide_eq_false (by omega)) rfl
/-- what a joiner tells -/
def jnl (m : Nat) (h V : List Int) : List Int := tabOf (jv m h V) m
theorem jfeed_w (K m : Nat) (hK : 100 ≤ K) (hm : m = 4 ∨ m = 8) (s h turn V : List Int) (hs : s.length = m) (hh : h.length = 10 * m) (ht : turn.length = 8 * m) (hV : V.length = 20 * m) :
    poly_Joiner_Feed_2 K s (m : Int) h turn V = some (.inr (jnl m h (jx m turn s V), jx m turn s V)) := by
  unfold poly_Joiner_Feed_2
  refine bif_eq_f (by rw [hs]; simp) ?_
  have e1 : kwrap .i64 (2 * (m : Int)) = ((2 * m : Nat) : Int) := by rw [kw_i64 (by omega) (by omega)]; omega
  rw [e1]
  dsimp only
  refine gd_eq (by rw [hV]; omega) ?_
  rw [Int.toNat_natCast]
  refine gd_eq (by rw [hV]; omega) ?_
  refine bnd_eq (jfeed_v K m hK hm s h turn V hs ht hV) ?_
  refine gd_eq (by omega) ?_
  rw [Int.toNat_natCast, List.length_replicate]
  refine bnd_eq (jfeed_o K m hK hm h turn _ hh (jx_len hV)) rfl
end Go.Fo
