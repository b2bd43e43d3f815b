/- What an unlapper tells of waves, and what it holds behind them. -/
import Derived.Test.YtphienllhdoenaaLnFe
namespace Go.Fo
set_option maxRecDepth 6000
theorem ldown_w (K : Nat) {n d : Int} (h0 : -9223372036854775808 ≤ n) (h1 : n ≤ 9223372036854775807) (hd : 2 ≤ d) : lapped_down K n d = some (n / d) := down_w K h0 h1 (by omega) (.inr hd)
def sumu (n : Nat) (c : List Int) (j : Nat) : Int := accf (fun k z => kwrap .i64 (z + kwrap .i64 (kwrap .i64 (c.getD k 0) * cv n j k))) 0 n
theorem sumu_b (n : Nat) (c : List Int) (j : Nat) : -9223372036854775808 ≤ sumu n c j ∧ sumu n c j ≤ 9223372036854775807 := by
  unfold sumu
  cases n with
  | zero => exact ⟨by show (-9223372036854775808 : Int) ≤ 0; decide, by show (0 : Int) ≤ 9223372036854775807; decide⟩
  | succ q => exact kwb _
/-- the whole number behind the sum, and the sample -/
def ynum (n : Nat) (c : List Int) (j : Nat) : Int := kwrap .i64 (kwrap .i64 (2 * rnd (sumu n c j) 15) + kwrap .i64 (Int.tdiv (n : Int) 2))
def smp (n : Nat) (w c : List Int) (j : Nat) : Int := sat32v (rnd (kwrap .i64 (sat32v (ynum n c j / (n : Int)) * kwrap .i64 (w.getD j 0))) 15)
theorem smp_b (n : Nat) (w c : List Int) (j : Nat) : -2147483648 ≤ smp n w c j ∧ smp n w c j ≤ 2147483647 := sat32v_b _
theorem sample_w (K : Nat) {n j : Nat} (hn : NN n) (hK : 1100 ≤ K) (hj : j < 2 * n) {c w : List Int} (l : List Int) (hc : c.length = n) (hw : w.length = 2 * n) :
    lapped_Unlapper_sample K c (j : Int) (n : Int) w (trn n) l = some (smp n w c j) := by
  obtain ⟨h1, h2⟩ := hn.b
  refine bnd_eq (x := sumu n c j) ?_ ?_
  · refine acc_loop0 (r := lapped_Unlapper_sample.r0 K (j : Int) c (c.length : Int) (n : Int) w (trn n) l) n (fun k z => kwrap .i64 (z + kwrap .i64 (kwrap .i64 (c.getD k 0) * cv n j k))) 0 _ (fun next k z hk => ?_) (fun next => ?_) (by omega)
    · refine bif_eq_t (decide_eq_true (by omega)) ?_
      refine gd_eq (by omega) ?_
      have hwv : lapped_tables_wave_2 K (j : Int) (k : Int) (n : Int) w (trn n) l = some (cv n j k) := wave_w K hn hj hk w l
      refine bnd_eq hwv ?_
      rw [kw_i64 (x := (k : Int) + 1) (by omega) (by omega), Int.toNat_natCast]
      rfl
    · exact bif_eq_f (decide_eq_false (by omega)) rfl
  · obtain ⟨b1, b2⟩ := sumu_b n c j
    refine bnd_eq (fround_w K b1 b2 (by decide) (by decide)) ?_
    obtain ⟨y1, y2⟩ := kwb (kwrap .i64 (2 * rnd (sumu n c j) 15) + kwrap .i64 (Int.tdiv (n : Int) 2))
    refine bnd_eq (ldown_w K y1 y2 (by omega)) ?_
    refine bnd_eq (fsat_w K _) ?_
    have hs := sat32v_b (ynum n c j / (n : Int))
    have hww : lapped_tables_windowed_2 K (kwrap .i64 (sat32v (ynum n c j / (n : Int)))) (j : Int) (n : Int) w (trn n) l = some (rnd (kwrap .i64 (sat32v (ynum n c j / (n : Int)) * kwrap .i64 (w.getD j 0))) 15) := by
      rw [kw_i64 (by omega) (by omega)]
      exact windowed_w K _ (n : Int) w (trn n) l (by omega)
    refine bnd_eq hww ?_
    exact bnd_eq (fsat_w K _) rfl
def uout (n : Nat) (w c : List Int) (ov : Nat → Int) (j : Nat) : Int := sat32v (kwrap .i64 (kwrap .i64 (ov j) + kwrap .i64 (smp n w c j)))
theorem unfeed_w (K : Nat) {n : Nat} (hn : NN n) (hK : 1100 ≤ K) {c w : List Int} (ov : Nat → Int) (hc : c.length = n) (hw : w.length = 2 * n) :
    lapped_Unlapper_Feed K c (n : Int) w (trn n) (tabOf ov n) = some (.inr (tabOf (uout n w c ov) n, tabOf (fun j => smp n w c (n + j)) n)) := by
  obtain ⟨h1, h2⟩ := hn.b
  refine bif_eq_f (by simp; omega) ?_
  refine gd_eq (by omega) ?_
  have e : ((List.replicate (Int.toNat (n : Int)) (0 : Int)).length : Int) = (n : Int) := by rw [List.length_replicate]; omega
  dsimp only
  rw [e, Int.toNat_natCast]
  refine bnd_eq (x := tabOf (uout n w c ov) n) ?_ ?_
  · refine fill_loop0 n (uout n w c ov) 0 _ (fun next j xs hj hxs => ?_) (fun next => ?_) (by omega)
    · refine bif_eq_t (decide_eq_true (by omega)) ?_
      refine gd_eq (by rw [tabOf_len]; omega) ?_
      refine gd_eq (by rw [tabOf_len]; omega) ?_
      refine bnd_eq (sample_w K hn hK (by omega) (tabOf ov n) hc hw) ?_
      refine bnd_eq (bnd_eq (fsat_w K _) rfl) ?_
      refine gd_eq (by rw [hxs]; omega) ?_
      refine gd_eq (by rw [hxs]; omega) ?_
      have e : Kd.nth (.int .i32) (tabOf ov n) (Int.toNat (j : Int)) = ov j := by
        unfold Kd.nth
        rw [Int.toNat_natCast, List.getD_eq_getElem?_getD, tabOf_get _ hj]; rfl
      rw [e, kw_i64 (x := (j : Int) + 1) (by omega) (by omega), Int.toNat_natCast]
      rfl
    · exact bif_eq_f (decide_eq_false (by omega)) rfl
  · rw [tabOf_len]
    refine bnd_eq (x := tabOf (fun j => smp n w c (n + j)) n) ?_ rfl
    refine over_loop0 n (fun j => smp n w c (n + j)) (tabOf ov n) _ (by rw [tabOf_len]; omega) (fun next j xs hj hxs => ?_) (fun next => ?_) (by omega)
    · rw [tabOf_len] at hxs
      refine bif_eq_t (decide_eq_true (by omega)) ?_
      rw [kw_i64 (x := (n : Int) + (j : Int)) (by omega) (by omega)]
      dsimp only
      rw [show (n : Int) + (j : Int) = ((n + j : Nat) : Int) by omega]
      refine bnd_eq (sample_w K hn hK (by omega) xs hc hw) ?_
      refine gd_eq (by rw [hxs]; omega) ?_
      refine gd_eq (by rw [hxs]; omega) ?_
      rw [kw_i64 (x := (j : Int) + 1) (by omega) (by omega), Int.toNat_natCast]
      rfl
    · refine bif_eq_f (decide_eq_false (by omega)) ?_
      rw [List.drop_of_length_le (by rw [tabOf_len]; omega), List.append_nil]
theorem newu_w {n : Nat} (hn : NN n) : ∃ w q1 q2 q3, w.length = 2 * n ∧ lapped_NewUnlapper 1100 (n : Int) (List.replicate 388 none) 0 0 = some (.inr (q1, q2, q3, w, trn n, List.replicate n 0)) ∧ psalteryref09_Window 1100 (n : Int) = some w := by
  obtain ⟨h1, h2⟩ := hn.b
  obtain ⟨w, q1, q2, q3, hw, h, hr⟩ := newof_w hn
  refine ⟨w, q1, q2, q3, hw, bnd_eq h ?_, hr⟩
  refine gd_eq (by omega) ?_
  rw [Int.toNat_natCast]
theorem zeros_tab (n : Nat) : List.replicate n (0 : Int) = tabOf (fun _ => 0) n := by unfold tabOf; rw [List.map_const', List.length_range]
/-- the document's way down -/
theorem rdown_w {y d : Int} (h0 : -9223372036854775808 ≤ y) (h1 : y ≤ 9223372036854775807) (hd : 2 ≤ d) :
    (bif (bif decide (y < 0) then (kwrap .i64 (kwrap .i64 (Int.tdiv y d) * d) != y) else false) then (some (kwrap .i64 (kwrap .i64 (Int.tdiv y d) - 1)) : Option Int) else some (kwrap .i64 (Int.tdiv y d))) = some (y / d) := by
  by_cases hy : 0 ≤ y
  · rw [decide_eq_false (by omega), Int.tdiv_eq_ediv_of_nonneg hy]
    have b1 : 0 ≤ y / d := Int.ediv_nonneg hy (by omega)
    have b2 : y / d ≤ y := Int.ediv_le_self _ hy
    rw [kw_i64 (x := y / d) (by omega) (by omega)]
    rfl
  · obtain ⟨z, rfl⟩ : ∃ z, y = -z := ⟨-y, by omega⟩
    have hz : 0 ≤ z := by omega
    have b1 : 0 ≤ z / d := Int.ediv_nonneg hz (by omega)
    have hm := Int.mul_ediv_add_emod z d
    have m1 := Int.emod_nonneg z (b := d) (by omega)
    have m2 := Int.emod_lt_of_pos z (b := d) (by omega)
    have b3 : 0 ≤ d * (z / d) := Int.mul_nonneg (by omega) b1
    have b4 : 2 * (z / d) ≤ d * (z / d) := Int.mul_le_mul_of_nonneg_right hd b1
    have b2 : z / d ≤ z / 2 := by omega
    rw [decide_eq_true (by omega), Int.neg_tdiv, Int.tdiv_eq_ediv_of_nonneg hz, kw_i64 (x := -(z / d)) (by omega) (by omega), Int.neg_mul, Int.mul_comm (z / d) d, kw_i64 (x := -(d * (z / d))) (by omega) (by omega)]
    by_cases hx : z % d = 0
    · have e : -(d * (z / d)) = -z := by omega
      rw [e]
      have : (-z) / d = -(z / d) := by
        have hz2 : z = d * (z / d) := by omega
        conv => lhs; rw [hz2, ← Int.mul_neg]
        exact Int.mul_ediv_cancel_left _ (by omega)
      rw [this]
      refine bif_eq_f ?_ rfl
      simp
    · refine bif_eq_t ?_ ?_
      · show (-(d * (z / d)) != -z) = true
        rw [bne_iff_ne]; omega
      · rw [kw_i64 (by omega) (by omega)]
        congr 1
        have hd0 : d ≠ 0 := by omega
        have e : -z = (d - z % d) + d * (-(z / d) - 1) := by
          rw [Int.mul_sub, Int.mul_neg, Int.mul_one]; omega
        conv => rhs; rw [e]
        have hq : (d - z % d) / d = 0 := Int.ediv_eq_zero_of_lt (by omega) (by omega)
        rw [Int.add_mul_ediv_left _ _ hd0, hq]
        omega
theorem back_w {n : Nat} (hn : NN n) {w c : List Int} (hc : c.length = n) (hw : w.length = 2 * n) (hr : psalteryref09_Window 1100 (n : Int) = some w) : psalteryref09_Back 1100 c (n : Int) = some (tabOf (smp n w c) (2 * n)) := by
  obtain ⟨h1, h2⟩ := hn.b
  refine bnd_eq hr ?_
  refine bnd_eq (waves_w hn) ?_
  refine bnd_eq (x := tabOf (smp n w c) (2 * n)) ?_ rfl
  refine app_loop0 (r := psalteryref09_Back.r0 1100 c (n : Int) w (trn n)) (2 * n) (smp n w c) (fun j => (j : Int)) _ (fun next j hj => ?_) (fun next => ?_) (by omega)
  · unfold psalteryref09_Back.r0
    dsimp only
    rw [kw_i64 (x := 2 * (n : Int)) (by omega) (by omega)]
    refine bif_eq_t (decide_eq_true (by omega)) ?_
    refine bnd_eq (x := sumu n c j) ?_ ?_
    · refine acc_loop0 (r := psalteryref09_Back.r1 1100 c (n : Int) w (trn n) (j : Int) (tabOf (smp n w c) j)) n (fun k z => kwrap .i64 (z + kwrap .i64 (kwrap .i64 (c.getD k 0) * cv n j k))) 0 _ (fun next k z hk => ?_) (fun next => ?_) (by omega)
      · unfold psalteryref09_Back.r1
        dsimp only
        rw [ix_w hn hj hk]
        refine bif_eq_t (decide_eq_true (by omega)) ?_
        refine gd_eq (by omega) ?_
        refine gd_eq (by rw [kw_i64 (by omega) (by omega)]; omega) ?_
        have hlt := ix_lt (j := j) (k := k) hn
        refine gd_eq (by rw [trn_len]; omega) ?_
        rw [kw_i64 (x := (k : Int) + 1) (by omega) (by omega), Int.toNat_natCast, Int.toNat_natCast]
        have e : Kd.nth (.int .i64) (trn n) ((2 * j + 1 + n) * (2 * k + 1) % (8 * n)) = cv n j k := trn_at hlt
        rw [e]
        rfl
      · exact bif_eq_f (decide_eq_false (by omega)) rfl
    · obtain ⟨b1, b2⟩ := sumu_b n c j
      refine bnd_eq (rround_w 1100 b1 b2 (by decide) (by decide)) ?_
      refine gd_eq (by omega) ?_
      obtain ⟨y1, y2⟩ := kwb (kwrap .i64 (2 * rnd (sumu n c j) 15) + kwrap .i64 (Int.tdiv (n : Int) 2))
      refine bnd_eq (rdown_w y1 y2 (by omega)) ?_
      refine bnd_eq (x := sat32v (ynum n c j / (n : Int))) (bnd_eq (rsat_w 1100 _) rfl) ?_
      refine gd_eq (by rw [hw]; omega) ?_
      obtain ⟨v1, v2⟩ := kwb (sat32v (ynum n c j / (n : Int)) * kwrap .i64 (w.getD j 0))
      rw [Int.toNat_natCast]
      refine bnd_eq (rround_w 1100 v1 v2 (by decide) (by decide)) ?_
      refine bnd_eq (x := smp n w c j) (bnd_eq (rsat_w 1100 _) rfl) ?_
      refine gd_eq (by rw [tabOf_len]; simp; omega) ?_
      rw [kw_i64 (x := (j : Int) + 1) (by omega) (by omega), ← tabOf_succ]
      rfl
  · unfold psalteryref09_Back.r0
    dsimp only
    rw [kw_i64 (x := 2 * (n : Int)) (by omega) (by omega)]
    exact bif_eq_f (decide_eq_false (by omega)) rfl
/-- what lies over: nothing, or the second half of the block ahead -/
structure Over (n : Nat) (old : List Int) (ov : Nat → Int) : Prop where
  b : ∀ j, -2147483648 ≤ ov j ∧ ov j ≤ 2147483647
  o : (old = [] ∧ ∀ j, ov j = 0) ∨ ∃ g, old = tabOf g (2 * n) ∧ ∀ j, ov j = g (n + j)
theorem unlap_w {n : Nat} (hn : NN n) {w c old : List Int} {ov : Nat → Int} (ho : Over n old ov) (hc : c.length = n) (hw : w.length = 2 * n) (hr : psalteryref09_Window 1100 (n : Int) = some w) :
    psalteryref09_Unlap_2 1100 old c (n : Int) = some (tabOf (uout n w c ov) n) := by
  obtain ⟨h1, h2⟩ := hn.b
  refine bnd_eq (back_w hn hc hw hr) ?_
  refine bnd_eq (x := tabOf (uout n w c ov) n) ?_ rfl
  refine app_loop0 (r := psalteryref09_Unlap_2.r0 1100 old (n : Int) (tabOf (smp n w c) (2 * n))) n (uout n w c ov) (fun j => (j : Int)) _ (fun next j hj => ?_) (fun next => ?_) (by omega)
  · refine bif_eq_t (decide_eq_true (by omega)) ?_
    refine bnd_eq (x := ov j) ?_ ?_
    · rcases ho.o with ⟨rfl, hz⟩ | ⟨g, rfl, hg⟩
      · rw [hz j]; exact bif_eq_f (by decide) rfl
      · refine bif_eq_t (decide_eq_true (by rw [tabOf_len]; omega)) ?_
        rw [kw_i64 (x := (n : Int) + (j : Int)) (by omega) (by omega)]
        refine gd_eq (by rw [tabOf_len]; omega) ?_
        rw [show ((n : Int) + (j : Int)).toNat = n + j by omega, hg j]
        unfold Kd.nth
        rw [List.getD_eq_getElem?_getD, tabOf_get _ (by omega)]; rfl
    · have e : Kd.nth (.int .i64) (tabOf (smp n w c) (2 * n)) (Int.toNat (j : Int)) = smp n w c j := by
        unfold Kd.nth
        rw [Int.toNat_natCast, List.getD_eq_getElem?_getD, tabOf_get _ (by omega)]; rfl
      have hb := ho.b j
      have hs := smp_b n w c j
      have hu : sat32v (kwrap .i64 (ov j + smp n w c j)) = uout n w c ov j := by unfold uout; rw [kw_i64 (x := ov j) (by omega) (by omega), kw_i64 (x := smp n w c j) (by omega) (by omega)]
      refine gd_eq (by rw [tabOf_len]; omega) ?_
      rw [e]
      refine bnd_eq (x := uout n w c ov j) (bnd_eq ((rsat_w 1100 _).trans (congrArg some hu)) rfl) ?_
      have hub := sat32v_b (kwrap .i64 (kwrap .i64 (ov j) + kwrap .i64 (smp n w c j)))
      rw [show kwrap .i32 (uout n w c ov j) = uout n w c ov j from kw_i32 hub.1 hub.2]
      refine gd_eq (by rw [tabOf_len]; simp; omega) ?_
      rw [kw_i64 (x := (j : Int) + 1) (by omega) (by omega)]
      show next _ (tabOf (uout n w c ov) j ++ [uout n w c ov j]) = _
      rw [← tabOf_succ]
      rfl
  · exact bif_eq_f (decide_eq_false (by omega)) rfl
end Go.Fo
