/- What an unlapper tells of waves, and what it holds behind them. -/
import Derived.Test.YtphienllhdoenaaLoFe
namespace Go.Fo
set_option maxRecDepth 6000
theorem ldown_w (K : Nat) {n d : Int} (h0 : -9223372036854775808 ≤ n) (h1 : n ≤ 9223372036854775807) (hd : 2 ≤ d) : lapped_down K n d = some (n / d) := down_w K h0 h1 (by omega) (.inr hd)
def sumu (n : Nat) (c : List Int) (j : Nat) : Int := accf (fun k z => kwrap .i64 (z + kwrap .i64 (kwrap .i64 (c.getD k 0) * cv n j k))) 0 n
theorem sumu_b (n : Nat) (c : List Int) (j : Nat) : -9223372036854775808 ≤ sumu n c j ∧ sumu n c j ≤ 9223372036854775807 := by
  unfold sumu
  cases n with
  | zero => exact ⟨by show (-9223372036854775808 : Int) ≤ 0; decide, by show (0 : Int) ≤ 9223372036854775807; decide⟩
  | succ q => exact kwb _
/-- the whole number behind the sum, and the sample -/
def ynum (n : Nat) (c : List Int) (j : Nat) : Int := kwrap .i64 (kwrap .i64 (2 * rnd (sumu n c j) 15) + kwrap .i64 (Int.tdiv (n : Int) 2))
def smp (n : Nat) (w c : List Int) (j : Nat) : Int := sat32v (rnd (kwrap .i64 (sat32v (ynum n c j / (n : Int)) * kwrap .i64 (w.getD j 0))) 15)
theorem smp_b (n : Nat) (w c : List Int) (j : Nat) : -2147483648 ≤ smp n w c j ∧ smp n w c j ≤ 2147483647 := sat32v_b _
theorem sample_w (K : Nat) {n j : Nat} (hn : NN n) (hK : 1100 ≤ K) (hj : j < 2 * n) {c w : List Int} (l : List Int) (hc : c.length = n) (hw : w.length = 2 * n) :
    lapped_Unlapper_sample_2 K c (j : Int) (n : Int) w (trn n) l = some (smp n w c j) := by
  obtain ⟨h1, h2⟩ := hn.b
  refine bnd_eq (x := sumu n c j) ?_ ?_
  · refine acc_loop0 (r := lapped_Unlapper_sample_2.r0 K (j : Int) c (c.length : Int) (n : Int) w (trn n) l) n (fun k z => kwrap .i64 (z + kwrap .i64 (kwrap .i64 (c.getD k 0) * cv n j k))) 0 _ (fun next k z hk => ?_) (fun next => ?_) (by omega)
    · refine bif_eq_t (decide_eq_true (by omega)) ?_
      refine gd_eq (by omega) ?_
      have hwv : lapped_tables_wave_2 K (j : Int) (k : Int) (n : Int) w (trn n) l = some (cv n j k) := wave_w K hn hj hk w l
      refine bnd_eq hwv ?_
      rw [kw_i64 (x := (k : Int) + 1) (by omega) (by omega), Int.toNat_natCast]
      rfl
    · exact bif_eq_f (decide_eq_false (by omega)) rfl
  · obtain ⟨b1, b2⟩ := sumu_b n c j
    refine bnd_eq (fround_w K b1 b2 (by decide) (by decide)) ?_
    obtain ⟨y1, y2⟩ := kwb (kwrap .i64 (2 * rnd (sumu n c j) 15) + kwrap .i64 (Int.tdiv (n : Int) 2))
    refine bnd_eq (ldown_w K y1 y2 (by omega)) ?_
    refine bnd_eq (fsat_w K _) ?_
    have hs := sat32v_b (ynum n c j / (n : Int))
    have hww : lapped_tables_windowed_2 K (kwrap .i64 (sat32v (ynum n c j / (n : Int)))) (j : Int) (n : Int) w (trn n) l = some (rnd (kwrap .i64 (sat32v (ynum n c j / (n : Int)) * kwrap .i64 (w.getD j 0))) 15) := by
      rw [kw_i64 (by omega) (by omega)]
      exact windowed_w K _ (n : Int) w (trn n) l (by omega)
    refine bnd_eq hww ?_
    exact bnd_eq (fsat_w K _) rfl
def uout (n : Nat) (w c : List Int) (ov : Nat → Int) (j : Nat) : Int := sat32v (kwrap .i64 (kwrap .i64 (ov j) + kwrap .i64 (smp n w c j)))
theorem unfeed_w (K : Nat) {n : Nat} (hn : NN n) (hK : 1100 ≤ K) {c w : List Int} (ov : Nat → Int) (hc : c.length = n) (hw : w.length = 2 * n) :
    lapped_Unlapper_Feed_2 K c (n : Int) w (trn n) (tabOf ov n) = some (.inr (tabOf (uout n w c ov) n, tabOf (fun j => smp n w c (n + j)) n)) := by
  obtain ⟨h1, h2⟩ := hn.b
  refine bif_eq_f (by simp; omega) ?_
  refine gd_eq (by omega) ?_
  have e : ((List.replicate (Int.toNat (n : Int)) (0 : Int)).length : Int) = (n : Int) := by rw [List.length_replicate]; omega
  dsimp only
  rw [e, Int.toNat_natCast]
  refine bnd_eq (x := tabOf (uout n w c ov) n) ?_ ?_
  · refine fill_loop0 n (uout n w c ov) 0 _ (fun next j xs hj hxs => ?_) (fun next => ?_) (by omega)
    · refine bif_eq_t (decide_eq_true (by omega)) ?_
      refine gd_eq (by rw [tabOf_len]; omega) ?_
      refine gd_eq (by rw [tabOf_len]; omega) ?_
      refine bnd_eq (sample_w K hn hK (by omega) (tabOf ov n) hc hw) ?_
      refine bnd_eq (bnd_eq (fsat_w K _) rfl) ?_
      refine gd_eq (by rw [hxs]; omega) ?_
      refine gd_eq (by rw [hxs]; omega) ?_
      have e : Kd.nth (.int .i32) (tabOf ov n) (Int.toNat (j : Int)) = ov j := by
        unfold Kd.nth
        rw [Int.toNat_natCast, List.getD_eq_getElem?_getD, tabOf_get _ hj]; rfl
      rw [e, kw_i64 (x := (j : Int) + 1) (by omega) (by omega), Int.toNat_natCast]
      rfl
    · exact bif_eq_f (decide_eq_false (by omega)) rfl
  · rw [tabOf_len]
    refine bnd_eq (x := tabOf (fun j => smp n w c (n + j)) n) ?_ rfl
    refine over_loop0 n (fun j => smp n w c (n + j)) (tabOf ov n) _ (by rw [tabOf_len]; omega) (fun next j xs hj hxs => ?_) (fun next => ?_) (by omega)
    · rw [tabOf_len] at hxs
      refine bif_eq_t (decide_eq_true (by omega)) ?_
      rw [kw_i64 (x := (n : Int) + (j : Int)) (by omega) (by omega)]
      dsimp only
      rw [show (n : Int) + (j : Int) = ((n + j : Nat) : Int) by omega]
      refine bnd_eq (sample_w K hn hK (by omega) xs hc hw) ?_
      refine gd_eq (by rw [hxs]; omega) ?_
      refine gd_eq (by rw [hxs]; omega) ?_
      rw [kw_i64 (x := (j : Int) + 1) (by omega) (by omega), Int.toNat_natCast]
      rfl
    · refine bif_eq_f (decide_eq_false (by omega)) ?_
      rw [List.drop_of_length_le (by rw [tabOf_len]; omega), List.append_nil]
theorem newu_w {n : Nat} (hn : NN n) : ∃ w q1 q2 q3, w.length = 2 * n ∧ lapped_NewUnlapper 1100 (n : Int) (List.replicate 388 none) 0 0 = some (.inr (q1, q2, q3, w, trn n, List.replicate n 0)) := by
  obtain ⟨h1, h2⟩ := hn.b
  obtain ⟨w, q1, q2, q3, hw, h⟩ := newof_w hn
  refine ⟨w, q1, q2, q3, hw, bnd_eq h ?_⟩
  refine gd_eq (by omega) ?_
  rw [Int.toNat_natCast]
theorem zeros_tab (n : Nat) : List.replicate n (0 : Int) = tabOf (fun _ => 0) n := by unfold tabOf; rw [List.map_const', List.length_range]
end Go.Fo
