/- What the kit's program says of the types that these functions use. -/
import Derived.Test.YtcaehpgdcjonfaaProg
import Derived.Test.YtcaehpgdcjonfaaQ3
namespace Go.Fo
open Go.Proofs
def ti3 : TI := { agg := false, size := 1, bytes := 8, zero := [.int .i64 0], ik := some .i64 }
theorem tok3 : tokb Try.prog 3 ti3 = true := by kernel_rfl
def ti4 : TI := { agg := false, size := 1, bytes := 1, zero := [.bool false], tag := 1 }
theorem tok4 : tokb Try.prog 4 ti4 = true := by kernel_rfl
def ti25 : TI := { agg := false, size := 1, bytes := 24, zero := [.nils], elem := 3, esz := 1, slc := true, ek := some (.int .i64), eb := 8, tag := 3 }
theorem tok25 : tokb Try.prog 25 ti25 = true := by kernel_rfl
def ti50 : TI := { agg := true, size := 10, bytes := 80, zero := [.int .i64 0, .int .i64 0, .int .i64 0, .int .i64 0, .int .i64 0, .int .i64 0, .int .i64 0, .int .i64 0, .int .i64 0, .int .i64 0], fields := [(0, 1, false), (1, 1, false), (2, 1, false), (3, 1, false), (4, 1, false), (5, 1, false), (6, 1, false), (7, 1, false), (8, 1, false), (9, 1, false)], eqf := true }
theorem tok50 : tokb Try.prog 50 ti50 = true := by kernel_rfl
def ti125 : TI := { agg := true, size := 4, bytes := 32, zero := [.int .i64 0, .int .i64 0, .int .i64 0, .int .i64 0], elem := 3, esz := 1, alen := 4, eagg := false, arr := true }
theorem tok125 : tokb Try.prog 125 ti125 = true := by kernel_rfl
def ti204 : TI := { agg := false, size := 1, bytes := 24, zero := [.nils], elem := 4, esz := 1, slc := true, ek := some (.bool), eb := 1, tag := 3 }
theorem tok204 : tokb Try.prog 204 ti204 = true := by kernel_rfl
def tab : Nat → Option TI
  | 3 => some ti3
  | 4 => some ti4
  | 25 => some ti25
  | 50 => some ti50
  | 125 => some ti125
  | 204 => some ti204
  | _ => none
theorem tab_ok (t : Nat) (i : TI) (h : tab t = some i) : TOK Try.prog t i := by
  unfold tab at h
  split at h
  · cases h; exact tok_of tok3
  · cases h; exact tok_of tok4
  · cases h; exact tok_of tok25
  · cases h; exact tok_of tok50
  · cases h; exact tok_of tok125
  · cases h; exact tok_of tok204
  · cases h
theorem eqf50 : EqF Try.prog 50 ti50 := eqf_of (by kernel_rfl)
theorem tab_eq (t : Nat) (i : TI) (h : tab t = some i) (e : i.eqf = true) : EqF Try.prog t i := by
  unfold tab at h
  split at h
  · cases h; cases e
  · cases h; cases e
  · cases h; cases e
  · cases h; exact eqf50
  · cases h; cases e
  · cases h; cases e
  · cases h
def env : Env Try.prog := ⟨tab, tab_ok, tab_eq⟩
end Go.Fo
