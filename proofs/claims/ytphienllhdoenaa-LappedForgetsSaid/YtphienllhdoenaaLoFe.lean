/- What a lapper tells of a block, and what it holds behind it. -/
import Derived.Test.YtphienllhdoenaaLoTb
namespace Go.Fo
set_option maxRecDepth 6000
def sat32v (x : Int) : Int := if x < -2147483648 then -2147483648 else if x > 2147483647 then 2147483647 else x
theorem sat32v_b (x : Int) : -2147483648 ≤ sat32v x ∧ sat32v x ≤ 2147483647 := by
  unfold sat32v
  split
  · omega
  · split <;> omega
theorem fsat_w (K : Nat) (x : Int) : fix_Sat32 K x = some (sat32v x) := by
  have hb := sat32v_b x
  have hw : fix_within_int64 K x (-2147483648) 2147483647 = some (sat32v x) := by
    unfold fix_within_int64 sat32v
    by_cases a : x < -2147483648
    · rw [if_pos a]; exact bif_eq_t (decide_eq_true a) rfl
    · rw [if_neg a]
      refine bif_eq_f (decide_eq_false a) ?_
      by_cases b : x > 2147483647
      · rw [if_pos b]; exact bif_eq_t (decide_eq_true b) rfl
      · rw [if_neg b]; exact bif_eq_f (decide_eq_false b) rfl
  refine bnd_eq hw ?_
  rw [kw_i32 hb.1 hb.2]
/-- a length -/
def NN (n : Nat) : Prop := n = 40 ∨ n = 60 ∨ n = 80 ∨ n = 120
theorem NN.b {n : Nat} (h : NN n) : 40 ≤ n ∧ n ≤ 120 := by unfold NN at h; omega
theorem cosv_b {a d : Int} (hd : 1 ≤ d) : -32767 ≤ cosv a d ∧ cosv a d ≤ 32767 := by
  unfold cosv sinv
  obtain ⟨h0, h1⟩ := tpart_w (num := 4 * (a % d) + d) (d := 4 * d) (by omega)
  obtain ⟨_, _, h2, h3⟩ := sn_w h0 h1
  split <;> omega
/-- the turn's table, and its number for j and k -/
def trn (n : Nat) : List Int := tabOf (turnF (8 * (n : Int))) (8 * n)
theorem trn_len (n : Nat) : (trn n).length = 8 * n := tabOf_len _ _
def cv (n j k : Nat) : Int := turnF (8 * (n : Int)) ((2 * j + 1 + n) * (2 * k + 1) % (8 * n))
theorem trn_at {n q : Nat} (h : q < 8 * n) : (trn n).getD q 0 = turnF (8 * (n : Int)) q := by
  unfold trn
  rw [List.getD_eq_getElem?_getD, tabOf_get _ h]; rfl
theorem ix_w {n j k : Nat} (hn : NN n) (hj : j < 2 * n) (hk : k < n) :
    Int.tmod (kwrap .i64 (kwrap .i64 (kwrap .i64 (kwrap .i64 (2 * (j : Int)) + 1) + (n : Int)) * kwrap .i64 (kwrap .i64 (2 * (k : Int)) + 1))) (kwrap .i64 (8 * (n : Int))) = (((2 * j + 1 + n) * (2 * k + 1) % (8 * n) : Nat) : Int) := by
  obtain ⟨h1, h2⟩ := hn.b
  have hp : ((2 * (j : Int) + 1 + (n : Int)) * (2 * (k : Int) + 1)) = (((2 * j + 1 + n) * (2 * k + 1) : Nat) : Int) := by push_cast; rfl
  have hb : (2 * j + 1 + n) * (2 * k + 1) ≤ 700 * 300 := Nat.mul_le_mul (by omega) (by omega)
  rw [kw_i64 (x := 2 * (j : Int)) (by omega) (by omega), kw_i64 (x := 2 * (j : Int) + 1) (by omega) (by omega), kw_i64 (x := 2 * (j : Int) + 1 + (n : Int)) (by omega) (by omega), kw_i64 (x := 2 * (k : Int)) (by omega) (by omega),
    kw_i64 (x := 2 * (k : Int) + 1) (by omega) (by omega), kw_i64 (x := 8 * (n : Int)) (by omega) (by omega), hp, kw_i64 (by omega) (by omega), Int.tmod_eq_emod_of_nonneg (by omega)]
  push_cast; rfl
theorem ix_lt {n j k : Nat} (hn : NN n) : (2 * j + 1 + n) * (2 * k + 1) % (8 * n) < 8 * n := Nat.mod_lt _ (by have := hn.b; omega)
theorem wave_w (K : Nat) {n j k : Nat} (hn : NN n) (hj : j < 2 * n) (hk : k < n) (w l : List Int) : lapped_tables_wave K (j : Int) (k : Int) (n : Int) w (trn n) l = some (cv n j k) := by
  obtain ⟨h1, h2⟩ := hn.b
  have hlt := ix_lt (j := j) (k := k) hn
  unfold lapped_tables_wave
  dsimp only
  rw [ix_w hn hj hk]
  refine gd_eq (by rw [kw_i64 (by omega) (by omega)]; omega) ?_
  refine gd_eq (by rw [trn_len]; omega) ?_
  rw [Int.toNat_natCast]
  show some (kwrap .i64 ((trn n).getD _ 0)) = _
  rw [trn_at hlt]
  have := cosv_b (a := (((2 * j + 1 + n) * (2 * k + 1) % (8 * n) : Nat) : Int)) (d := 8 * (n : Int)) (by omega)
  rw [show turnF (8 * (n : Int)) ((2 * j + 1 + n) * (2 * k + 1) % (8 * n)) = cosv (((2 * j + 1 + n) * (2 * k + 1) % (8 * n) : Nat) : Int) (8 * (n : Int)) from rfl, kw_i64 (by omega) (by omega)]
  rfl
/-- windowed -/
def av (w s : List Int) (j : Nat) : Int := rnd (kwrap .i64 (kwrap .i64 (s.getD j 0) * kwrap .i64 (w.getD j 0))) 15
theorem windowed_w (K : Nat) (s : Int) {j : Nat} (n : Int) (w t l : List Int) (hj : j < w.length) : lapped_tables_windowed K s (j : Int) n w t l = some (rnd (kwrap .i64 (s * kwrap .i64 (w.getD j 0))) 15) := by
  refine gd_eq (by omega) ?_
  obtain ⟨b1, b2⟩ := kwb (s * kwrap .i64 (w.getD j 0))
  exact bnd_eq (fround_w K b1 b2 (by decide) (by decide)) rfl
def sumv (n : Nat) (w s : List Int) (k : Nat) : Int := accf (fun j z => kwrap .i64 (z + kwrap .i64 (av w s j * cv n j k))) 0 (2 * n)
theorem sumv_b (n : Nat) (w s : List Int) (k : Nat) : -9223372036854775808 ≤ sumv n w s k ∧ sumv n w s k ≤ 9223372036854775807 := by
  unfold sumv
  cases 2 * n with
  | zero => exact ⟨by show (-9223372036854775808 : Int) ≤ 0; decide, by show (0 : Int) ≤ 9223372036854775807; decide⟩
  | succ q => exact kwb _
def outv (n : Nat) (w s : List Int) (k : Nat) : Int := sat32v (rnd (sumv n w s k) 15)
theorem concat_w (K : Nat) {x l : List Int} (hx : x.length ≤ 1000) (hl : l.length ≤ 1000) : slices_Concat_int16_int16 K x l = some (l ++ x) := by
  have e1 : kwrap .i64 (0 + (l.length : Int)) = (l.length : Int) := by rw [Int.zero_add, kw_i64 (by omega) (by omega)]
  have e2 : kwrap .i64 ((l.length : Int) + (x.length : Int)) = (l.length : Int) + (x.length : Int) := kw_i64 (by omega) (by omega)
  refine bnd_eq (x := (l.length : Int) + (x.length : Int)) ?_ ?_
  · rw [e1]
    refine bif_eq_f (decide_eq_false (by omega)) ?_
    rw [e2]
    exact bif_eq_f (decide_eq_false (by omega)) rfl
  · refine bnd_eq (x := ()) (gd_eq (by omega) rfl) ?_
    refine bnd_eq (x := l ++ x) ?_ rfl
    refine gd_eq (by simp; omega) ?_
    exact gd_eq (by simp; omega) rfl
theorem feed_a (K : Nat) {n : Nat} (hn : NN n) (hK : 1100 ≤ K) (x w l s : List Int) (hs : s.length = 2 * n) (hw : w.length = 2 * n) :
    lapped_Lapper_Feed.l2 K x s (s.length : Int) (n : Int) w (trn n) l K 0 (List.replicate 0 0) = some (tabOf (av w s) (2 * n)) := by
  obtain ⟨h1, h2⟩ := hn.b
  refine app_loop0 (r := lapped_Lapper_Feed.r2 K x s (s.length : Int) (n : Int) w (trn n) l) (2 * n) (av w s) (fun k => (k : Int)) _ (fun next k hk => ?_) (fun next => ?_) (by omega)
  · refine bif_eq_t (decide_eq_true (by rw [hs]; omega)) ?_
    refine gd_eq (by rw [hs]; omega) ?_
    refine bnd_eq (windowed_w K _ (n : Int) w (trn n) l (by omega)) ?_
    refine gd_eq (by rw [tabOf_len]; simp; omega) ?_
    rw [kw_i64 (x := (k : Int) + 1) (by omega) (by omega), Int.toNat_natCast, tabOf_succ]
    rfl
  · exact bif_eq_f (decide_eq_false (by rw [hs]; omega)) rfl
theorem feed_o (K : Nat) {n : Nat} (hn : NN n) (hK : 1100 ≤ K) (x w l s : List Int) :
    lapped_Lapper_Feed.l0 K x (n : Int) (n : Int) w (trn n) l (tabOf (av w s) (2 * n)) K 0 (List.replicate n 0) = some (tabOf (outv n w s) n) := by
  obtain ⟨h1, h2⟩ := hn.b
  refine fill_loop0 n (outv n w s) 0 _ (fun next k xs hk hxs => ?_) (fun next => ?_) (by omega)
  · refine bif_eq_t (decide_eq_true (by omega)) ?_
    refine bnd_eq (x := sumv n w s k) ?_ ?_
    · refine acc_loop0 (2 * n) (fun j z => kwrap .i64 (z + kwrap .i64 (av w s j * cv n j k))) 0 _ (fun next j z hj => ?_) (fun next => ?_) (by omega)
      · refine bif_eq_t (decide_eq_true (by rw [tabOf_len]; omega)) ?_
        refine gd_eq (by rw [tabOf_len]; omega) ?_
        refine bnd_eq (wave_w K hn hj hk w l) ?_
        rw [kw_i64 (x := (j : Int) + 1) (by omega) (by omega), Int.toNat_natCast]
        have e : Kd.nth (.int .i64) (tabOf (av w s) (2 * n)) j = av w s j := by
          unfold Kd.nth
          rw [List.getD_eq_getElem?_getD, tabOf_get _ hj]; rfl
        dsimp only
        rw [e]
        rfl
      · exact bif_eq_f (decide_eq_false (by rw [tabOf_len]; omega)) rfl
    · obtain ⟨b1, b2⟩ := sumv_b n w s k
      refine bnd_eq (fround_w K b1 b2 (by decide) (by decide)) ?_
      refine bnd_eq (fsat_w K _) ?_
      refine gd_eq (by rw [hxs]; omega) ?_
      rw [kw_i64 (x := (k : Int) + 1) (by omega) (by omega), Int.toNat_natCast]
      rfl
  · exact bif_eq_f (decide_eq_false (by omega)) rfl
theorem cpy_all {x l : List Int} (h : x.length = l.length) : cpy 0 l x = x := by
  unfold cpy
  rw [List.take_zero, List.nil_append, Nat.sub_zero, Nat.zero_add, ← h, List.take_length, h, List.drop_length, List.append_nil]
theorem feed_w (K : Nat) {n : Nat} (hn : NN n) (hK : 1100 ≤ K) {x w l : List Int} (hx : x.length = n) (hl : l.length = n) (hw : w.length = 2 * n) :
    lapped_Lapper_Feed K x (n : Int) w (trn n) l = some (.inr (tabOf (outv n w (l ++ x)) n, x)) := by
  obtain ⟨h1, h2⟩ := hn.b
  refine bif_eq_f (by simp; omega) ?_
  rw [kw_i64 (x := 2 * (n : Int)) (by omega) (by omega)]
  refine gd_eq (by omega) ?_
  refine bnd_eq (concat_w K (by omega) (by omega)) ?_
  refine bnd_eq (feed_a K hn hK x w l (l ++ x) (by rw [List.length_append]; omega) hw) ?_
  refine gd_eq (by omega) ?_
  have e : ((List.replicate (Int.toNat (n : Int)) (0 : Int)).length : Int) = (n : Int) := by rw [List.length_replicate]; omega
  dsimp only
  rw [e, Int.toNat_natCast]
  refine bnd_eq (feed_o K hn hK x w l (l ++ x)) ?_
  rw [cpy_all (by omega)]
/-- a new lapper -/
def chkw (n : Int) : Bool := match lapped_Window 1100 n (List.replicate 388 none) 0 0 with
  | some (.inr (w, t, _, _)) => t.length == 388 && (match t[(2 * n).toNat]? with | some none => true | _ => false) && (w.length : Int) == 2 * n
  | _ => false
theorem chkw_all {n : Nat} (hn : NN n) : chkw (n : Int) = true := by
  rcases hn with rfl | rfl | rfl | rfl
  · kernel_rfl
  · kernel_rfl
  · kernel_rfl
  · kernel_rfl
theorem newof_w {n : Nat} (hn : NN n) : ∃ w q1 q2 q3, w.length = 2 * n ∧ lapped_of 1100 (n : Int) (List.replicate 388 none) 0 0 = some (.inr (.inr (w, trn n, q1, q2, q3))) := by
  obtain ⟨h1, h2⟩ := hn.b
  have hc := chkw_all hn
  unfold chkw at hc
  split at hc
  · rename_i w t a b hw
    simp only [Bool.and_eq_true, beq_iff_eq] at hc
    obtain ⟨⟨c1, c2⟩, c3⟩ := hc
    have h0 : t[(2 * (n : Int)).toNat]? = some none := by
      split at c2
      · assumption
      · cases c2
    have hm : mayTurn (8 * (n : Int)) = true := by rcases hn with rfl | rfl | rfl | rfl <;> rfl
    have hk : kwrap .i64 (8 * (n : Int)) = 8 * (n : Int) := kw_i64 (by omega) (by omega)
    have hno : ∀ m, t[(8 * (n : Int) / 4).toNat]? = some (some m) → m = tabOf (turnF (8 * (n : Int))) (8 * (n : Int)).toNat := fun m h => by
      rw [show (8 * (n : Int) / 4).toNat = (2 * (n : Int)).toNat by omega, h0] at h; simp at h
    have ht := turn_w 1100 (by decide) (8 * (n : Int)) t a b c1 hno
    rw [hm, if_pos rfl] at ht
    have h1' := (told_at (a := a) (b := b) (l := tabOf (turnF (8 * (n : Int))) (8 * (n : Int)).toNat) (j := (8 * (n : Int) / 4).toNat) (by rw [c1]; omega) hno).1
    generalize told t (8 * (n : Int) / 4).toNat (tabOf (turnF (8 * (n : Int))) (8 * (n : Int)).toNat) a b = q at ht h1'
    obtain ⟨q0, q1, q2, q3⟩ := q
    have e : (8 * (n : Int)).toNat = 8 * n := by omega
    rw [e] at h1'
    refine ⟨w, q1, q2, q3, by omega, ?_⟩
    refine bnd_eq hw ?_
    dsimp only
    rw [hk]
    refine bnd_eq ht ?_
    dsimp only at h1'
    rw [h1']; rfl
  · cases hc
theorem new_w {n : Nat} (hn : NN n) : ∃ w q1 q2 q3, w.length = 2 * n ∧ lapped_NewLapper 1100 (n : Int) (List.replicate 388 none) 0 0 = some (.inr (q1, q2, q3, w, trn n, List.replicate n 0)) := by
  obtain ⟨h1, h2⟩ := hn.b
  obtain ⟨w, q1, q2, q3, hw, h⟩ := newof_w hn
  refine ⟨w, q1, q2, q3, hw, bnd_eq h ?_⟩
  refine gd_eq (by omega) ?_
  rw [Int.toNat_natCast]
end Go.Fo
