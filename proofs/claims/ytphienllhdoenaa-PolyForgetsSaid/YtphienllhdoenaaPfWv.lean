/- Rounding and waves: what the program and the document reckon. -/
import Derived.Test.YtphienllhdoenaaJ3
import Derived.Test.YtphienllhdoenaaPfF
namespace Go.Fo
set_option maxRecDepth 6000

/-- n divided by 2^s, rounded to the nearest, halves up -/
def rnd (n : Int) (s : Nat) : Int := (n / 2 ^ (s - 1) + 1) / 2

theorem two_pow_pos (s : Nat) : (0 : Int) < 2 ^ s := Int.pow_pos (by decide)
theorem two_pow_le {s t : Nat} (h : s ≤ t) : (2 : Int) ^ s ≤ 2 ^ t := by
  have := Nat.pow_le_pow_right (n := 2) (by decide) h
  exact_mod_cast this
theorem ediv_abs {n d : Int} (hd : 1 ≤ d) {a : Int} (h0 : -a ≤ n) (h1 : n ≤ a) : -a ≤ n / d ∧ n / d ≤ a := by
  have ha : 0 ≤ a := by omega
  have h2 := Int.mul_ediv_add_emod n d
  have h3 := Int.emod_nonneg n (b := d) (by omega)
  have h4 := Int.emod_lt_of_pos n (b := d) (by omega)
  constructor
  · refine Int.le_ediv_of_mul_le (by omega) ?_
    have : -a * d ≤ -a * 1 := Int.mul_le_mul_of_nonpos_left (by omega) hd
    omega
  · refine Int.ediv_le_of_le_mul (by omega) ?_
    have : a * 1 ≤ a * d := Int.mul_le_mul_of_nonneg_left hd ha
    omega

theorem fround_w (K : Nat) {n s : Int} (h0 : -9223372036854775808 ≤ n) (h1 : n ≤ 9223372036854775807) (hs : 1 ≤ s) (hs2 : s ≤ 62) : fix_Round K n s = some (rnd n s.toNat) := by
  obtain ⟨q, rfl⟩ : ∃ q : Nat, s = ((q + 1 : Nat) : Int) := ⟨(s - 1).toNat, by omega⟩
  have hq : q ≤ 61 := by omega
  have hw : fix_within_int K ((q + 1 : Nat) : Int) 0 62 = some ((q + 1 : Nat) : Int) := by
    unfold fix_within_int
    rw [decide_eq_false (show ¬ ((q + 1 : Nat) : Int) < 0 by omega), decide_eq_false (show ¬ ((q + 1 : Nat) : Int) > 62 by omega)]
    rfl
  refine bnd_eq hw ?_
  refine bif_eq_f (by simp; omega) ?_
  refine gd_eq (by omega) ?_
  have e4 : kwrap .i64 (((q + 1 : Nat) : Int) - 1) = (q : Int) := by rw [kw_i64 (by omega) (by omega)]; omega
  simp only [e4]
  refine gd_eq (by omega) ?_
  have hp := two_pow_pos q
  have s1 : kshr .i64 n ((q + 1 : Nat) : Int) = n / 2 ^ q / 2 := by
    unfold kshr
    rw [show min ((q + 1 : Nat) : Int).toNat (IntKind.bits .i64) = q + 1 by
      show min _ 64 = _
      omega, Int.fdiv_eq_ediv_of_nonneg _ (by have := two_pow_pos (q + 1); omega), Int.pow_succ, Int.ediv_ediv_of_nonneg (by omega)]
  have s2 : kshr .i64 n (q : Int) = n / 2 ^ q := by
    unfold kshr
    rw [show min ((q : Int)).toNat (IntKind.bits .i64) = q by
      show min _ 64 = _
      omega, Int.fdiv_eq_ediv_of_nonneg _ (by omega)]
  have s3 : ∀ x : Int, kand .i64 x 1 = x % 2 := fun x => kand_mask_i64 x 1 (by decide)
  obtain ⟨b1, b2⟩ := ediv_abs (n := n) (d := 2 ^ q) (by omega) (a := 9223372036854775808) (by omega) (by omega)
  rw [s1, s2, s3]
  generalize hx : n / 2 ^ q = x at b1 b2 ⊢
  have : rnd n ((q + 1 : Nat) : Int).toNat = (x + 1) / 2 := by
    unfold rnd
    rw [show ((q + 1 : Nat) : Int).toNat - 1 = q by omega, hx]
  rw [this, kw_i64 (by omega) (by omega)]
  congr 1; omega

end Go.Fo
