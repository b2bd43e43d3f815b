/- Numbers: masks and shifts. -/
import Derived.Test.YtcaehpgdcjonfaaN1
namespace Go.Fo
theorem and_mask (w : Nat) (x : Int) (n : Nat) (h : n ≤ w) : ((BitVec.ofInt w x &&& BitVec.ofInt w ((2 : Int) ^ n - 1)).toNat : Int) = x % (2 : Int) ^ n := by
  have e1 : (BitVec.ofInt w ((2 : Int) ^ n - 1)).toNat = 2 ^ n - 1 := by
    rw [BitVec.toNat_ofInt]
    have hp : (0 : Int) < 2 ^ n := Int.pow_pos (by decide)
    have hle : (2 : Int) ^ n ≤ 2 ^ w := by
      have := Nat.pow_le_pow_right (n := 2) (by decide) h
      exact_mod_cast this
    rw [show (((2 : Nat) ^ w : Nat) : Int) = (2 : Int) ^ w by norm_cast, Int.emod_eq_of_lt (by omega) (by omega)]
    have h1 := Nat.one_le_two_pow (n := n)
    have h2 : ((2 ^ n : Nat) : Int) = (2 : Int) ^ n := by norm_cast
    rw [← h2]
    omega
  rw [BitVec.toNat_and, e1, Nat.and_two_pow_sub_one_eq_mod, BitVec.toNat_ofInt]
  have hw : (0 : Int) ≤ x % ((2 ^ w : Nat) : Int) := Int.emod_nonneg _ (by have := Nat.one_le_two_pow (n := w); omega)
  rw [Int.natCast_emod, Int.toNat_of_nonneg hw]
  have hd : ((2 ^ n : Nat) : Int) ∣ ((2 ^ w : Nat) : Int) := by
    have := Nat.pow_dvd_pow 2 h
    exact_mod_cast this
  rw [Int.emod_emod_of_dvd _ hd]
  norm_cast
theorem kand_mask_i64 (x : Int) (n : Nat) (h : n ≤ 62) : kand .i64 x ((2 : Int) ^ n - 1) = x % (2 : Int) ^ n := by
  unfold kand
  have e : IntKind.i64.bits = 64 := rfl
  rw [e, and_mask 64 x n (by omega)]
  have hp : (0 : Int) < 2 ^ n := Int.pow_pos (by decide)
  have h1 := Int.emod_nonneg x (b := (2 : Int) ^ n) (by omega)
  have h2 := Int.emod_lt_of_pos x hp
  have h3 : (2 : Int) ^ n ≤ 2 ^ 62 := by
    have := Nat.pow_le_pow_right (n := 2) (by decide) h
    exact_mod_cast this
  exact kw_i64 (by omega) (by omega)
theorem kand_65535 (x : Int) : kand .i64 x 65535 = x % 65536 := kand_mask_i64 x 16 (by decide)
end Go.Fo
