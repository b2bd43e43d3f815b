/- What the kit's program says of the types that these functions use. -/
import Derived.Test.YtcaehpgdcjonfaaProg
import Derived.Test.YtcaehpgdcjonfaaQ3
namespace Go.Fo
open Go.Proofs
def ti3 : TI := { agg := false, size := 1, bytes := 8, zero := [.int .i64 0], ik := some .i64 }
theorem tok3 : tokb Try.prog 3 ti3 = true := by kernel_rfl
def ti4 : TI := { agg := false, size := 1, bytes := 1, zero := [.bool false], tag := 1 }
theorem tok4 : tokb Try.prog 4 ti4 = true := by kernel_rfl
def ti5 : TI := { agg := false, size := 1, bytes := 1, zero := [.int .u8 0], ik := some .u8 }
theorem tok5 : tokb Try.prog 5 ti5 = true := by kernel_rfl
def ti25 : TI := { agg := false, size := 1, bytes := 24, zero := [.nils], elem := 3, esz := 1, slc := true, ek := some (.int .i64), eb := 8, tag := 3 }
theorem tok25 : tokb Try.prog 25 ti25 = true := by kernel_rfl
def ti50 : TI := { agg := true, size := 10, bytes := 80, zero := [.int .i64 0, .int .i64 0, .int .i64 0, .int .i64 0, .int .i64 0, .int .i64 0, .int .i64 0, .int .i64 0, .int .i64 0, .int .i64 0], fields := [(0, 1, false), (1, 1, false), (2, 1, false), (3, 1, false), (4, 1, false), (5, 1, false), (6, 1, false), (7, 1, false), (8, 1, false), (9, 1, false)], eqf := true }
theorem tok50 : tokb Try.prog 50 ti50 = true := by kernel_rfl
def ti51 : TI := { agg := false, size := 1, bytes := 8, zero := [.nilf], tag := 4 }
theorem tok51 : tokb Try.prog 51 ti51 = true := by kernel_rfl
def ti61 : TI := { agg := false, size := 1, bytes := 24, zero := [.nils], elem := 5, esz := 1, slc := true, ek := some (.int .u8), eb := 1, tag := 3 }
theorem tok61 : tokb Try.prog 61 ti61 = true := by kernel_rfl
def ti64 : TI := { agg := true, size := 8, bytes := 64, zero := [.int .i64 0, .int .i64 0, .int .i64 0, .int .i64 0, .int .i64 0, .int .i64 0, .int .i64 0, .int .i64 0], fields := [(0, 1, false), (1, 1, false), (2, 1, false), (3, 1, false), (4, 1, false), (5, 1, false), (6, 1, false), (7, 1, false)], eqf := true }
theorem tok64 : tokb Try.prog 64 ti64 = true := by kernel_rfl
def ti65 : TI := { agg := true, size := 5, bytes := 40, zero := [.int .i64 0, .int .i64 0, .int .i64 0, .int .i64 0, .int .i64 0], fields := [(0, 1, false), (1, 1, false), (2, 1, false), (3, 1, false), (4, 1, false)], eqf := true }
theorem tok65 : tokb Try.prog 65 ti65 = true := by kernel_rfl
def ti67 : TI := { agg := true, size := 15, bytes := 120, zero := [.int .i64 0, .int .i64 0, .int .i64 0, .int .i64 0, .int .i64 0, .int .i64 0, .int .i64 0, .int .i64 0, .int .i64 0, .int .i64 0, .int .i64 0, .int .i64 0, .int .i64 0, .int .i64 0, .int .i64 0], fields := [(0, 8, true), (8, 5, true), (13, 1, false), (14, 1, false)] }
theorem tok67 : tokb Try.prog 67 ti67 = true := by kernel_rfl
def ti74 : TI := { agg := true, size := 2, bytes := 16, zero := [.int .i64 0, .int .i64 0], fields := [(0, 1, false), (1, 1, false)], eqf := true }
theorem tok74 : tokb Try.prog 74 ti74 = true := by kernel_rfl
def ti125 : TI := { agg := true, size := 4, bytes := 32, zero := [.int .i64 0, .int .i64 0, .int .i64 0, .int .i64 0], elem := 3, esz := 1, alen := 4, eagg := false, arr := true }
theorem tok125 : tokb Try.prog 125 ti125 = true := by kernel_rfl
def ti131 : TI := { agg := false, size := 1, bytes := 24, zero := [.nils], elem := 133, esz := 1, slc := true, tag := 3 }
theorem tok131 : tokb Try.prog 131 ti131 = true := by kernel_rfl
def ti133 : TI := { agg := false, size := 1, bytes := 8, zero := [.nilp], tag := 2 }
theorem tok133 : tokb Try.prog 133 ti133 = true := by kernel_rfl
def ti134 : TI := { agg := true, size := 4, bytes := 4, zero := [.bool false, .bool false, .bool false, .bool false], elem := 4, esz := 1, alen := 4, eagg := false, arr := true }
theorem tok134 : tokb Try.prog 134 ti134 = true := by kernel_rfl
def ti204 : TI := { agg := false, size := 1, bytes := 24, zero := [.nils], elem := 4, esz := 1, slc := true, ek := some (.bool), eb := 1, tag := 3 }
theorem tok204 : tokb Try.prog 204 ti204 = true := by kernel_rfl
def tab : Nat → Option TI
  | 3 => some ti3
  | 4 => some ti4
  | 5 => some ti5
  | 25 => some ti25
  | 50 => some ti50
  | 51 => some ti51
  | 61 => some ti61
  | 64 => some ti64
  | 65 => some ti65
  | 67 => some ti67
  | 74 => some ti74
  | 125 => some ti125
  | 131 => some ti131
  | 133 => some ti133
  | 134 => some ti134
  | 204 => some ti204
  | _ => none
theorem tab_ok (t : Nat) (i : TI) (h : tab t = some i) : TOK Try.prog t i := by
  unfold tab at h
  split at h
  · cases h; exact tok_of tok3
  · cases h; exact tok_of tok4
  · cases h; exact tok_of tok5
  · cases h; exact tok_of tok25
  · cases h; exact tok_of tok50
  · cases h; exact tok_of tok51
  · cases h; exact tok_of tok61
  · cases h; exact tok_of tok64
  · cases h; exact tok_of tok65
  · cases h; exact tok_of tok67
  · cases h; exact tok_of tok74
  · cases h; exact tok_of tok125
  · cases h; exact tok_of tok131
  · cases h; exact tok_of tok133
  · cases h; exact tok_of tok134
  · cases h; exact tok_of tok204
  · cases h
theorem eqf50 : EqF Try.prog 50 ti50 := eqf_of (by kernel_rfl)
theorem eqf64 : EqF Try.prog 64 ti64 := eqf_of (by kernel_rfl)
theorem eqf65 : EqF Try.prog 65 ti65 := eqf_of (by kernel_rfl)
theorem eqf74 : EqF Try.prog 74 ti74 := eqf_of (by kernel_rfl)
theorem tab_eq (t : Nat) (i : TI) (h : tab t = some i) (e : i.eqf = true) : EqF Try.prog t i := by
  unfold tab at h
  split at h
  · cases h; cases e
  · cases h; cases e
  · cases h; cases e
  · cases h; cases e
  · cases h; exact eqf50
  · cases h; cases e
  · cases h; cases e
  · cases h; exact eqf64
  · cases h; exact eqf65
  · cases h; cases e
  · cases h; exact eqf74
  · cases h; cases e
  · cases h; cases e
  · cases h; cases e
  · cases h; cases e
  · cases h; cases e
  · cases h
theorem tv : True := trivial
def env : Env Try.prog := ⟨tab, tab_ok, tab_eq⟩
end Go.Fo
