/- What the kit's program says of the types that these functions use. -/
import Derived.Test.YtcaehpgdcjonfaaProg
import Derived.Test.YtcaehpgdcjonfaaQ2
namespace Go.Fo
open Go.Proofs
def ti3 : TI := { agg := false, size := 1, bytes := 8, zero := [.int .i64 0], ik := some .i64 }
theorem tok3 : tokb Try.prog 3 ti3 = true := by kernel_rfl
def ti4 : TI := { agg := false, size := 1, bytes := 1, zero := [.bool false], tag := 1 }
theorem tok4 : tokb Try.prog 4 ti4 = true := by kernel_rfl
def ti5 : TI := { agg := false, size := 1, bytes := 1, zero := [.int .u8 0], ik := some .u8 }
theorem tok5 : tokb Try.prog 5 ti5 = true := by kernel_rfl
def ti23 : TI := { agg := true, size := 4, bytes := 32, zero := [.int .i64 0, .int .i64 0, .int .i64 0, .int .i64 0], fields := [(0, 1, false), (1, 1, false), (2, 1, false), (3, 1, false)] }
theorem tok23 : tokb Try.prog 23 ti23 = true := by kernel_rfl
def ti24 : TI := { agg := false, size := 1, bytes := 4, zero := [.int .u32 0], ik := some .u32 }
theorem tok24 : tokb Try.prog 24 ti24 = true := by kernel_rfl
def ti25 : TI := { agg := false, size := 1, bytes := 24, zero := [.nils], elem := 3, esz := 1, slc := true, ek := some (.int .i64), eb := 8, tag := 3 }
theorem tok25 : tokb Try.prog 25 ti25 = true := by kernel_rfl
def ti27 : TI := { agg := false, size := 1, bytes := 8, zero := [.nilp], tag := 2 }
theorem tok27 : tokb Try.prog 27 ti27 = true := by kernel_rfl
def ti31 : TI := { agg := true, size := 4, bytes := 32, zero := [.int .i64 0, .int .i64 0, .int .i64 0, .int .i64 0], fields := [(0, 1, false), (1, 1, false), (2, 1, false), (3, 1, false)] }
theorem tok31 : tokb Try.prog 31 ti31 = true := by kernel_rfl
def ti34 : TI := { agg := false, size := 1, bytes := 8, zero := [.int .u64 0], ik := some .u64 }
theorem tok34 : tokb Try.prog 34 ti34 = true := by kernel_rfl
def ti36 : TI := { agg := true, size := 6, bytes := 48, zero := [.int .i64 0, .int .i64 0, .int .i64 0, .int .i64 0, .int .u64 0, .bool false], fields := [(0, 4, true), (4, 1, false), (5, 1, false)] }
theorem tok36 : tokb Try.prog 36 ti36 = true := by kernel_rfl
def ti42 : TI := { agg := false, size := 1, bytes := 24, zero := [.nils], elem := 45, esz := 4, slc := true, ek := some (.pair (.int .i64) (.pair (.int .i64) (.pair (.int .i64) (.int .u32)))), eb := 32, tag := 3 }
theorem tok42 : tokb Try.prog 42 ti42 = true := by kernel_rfl
def ti45 : TI := { agg := true, size := 4, bytes := 32, zero := [.int .i64 0, .int .i64 0, .int .i64 0, .int .u32 0], fields := [(0, 1, false), (1, 1, false), (2, 1, false), (3, 1, false)], eqf := true }
theorem tok45 : tokb Try.prog 45 ti45 = true := by kernel_rfl
def ti124 : TI := { agg := true, size := 6, bytes := 40, zero := [.int .i64 0, .int .i64 0, .int .i64 0, .int .i64 0, .int .u32 0, .bool false], fields := [(0, 4, true), (4, 1, false), (5, 1, false)] }
theorem tok124 : tokb Try.prog 124 ti124 = true := by kernel_rfl
def ti125 : TI := { agg := true, size := 4, bytes := 32, zero := [.int .i64 0, .int .i64 0, .int .i64 0, .int .i64 0], elem := 3, esz := 1, alen := 4, eagg := false, arr := true }
theorem tok125 : tokb Try.prog 125 ti125 = true := by kernel_rfl
def tab : Nat → Option TI
  | 3 => some ti3
  | 4 => some ti4
  | 5 => some ti5
  | 23 => some ti23
  | 24 => some ti24
  | 25 => some ti25
  | 27 => some ti27
  | 31 => some ti31
  | 34 => some ti34
  | 36 => some ti36
  | 42 => some ti42
  | 45 => some ti45
  | 124 => some ti124
  | 125 => some ti125
  | _ => none
theorem tab_ok (t : Nat) (i : TI) (h : tab t = some i) : TOK Try.prog t i := by
  unfold tab at h
  split at h
  · cases h; exact tok_of tok3
  · cases h; exact tok_of tok4
  · cases h; exact tok_of tok5
  · cases h; exact tok_of tok23
  · cases h; exact tok_of tok24
  · cases h; exact tok_of tok25
  · cases h; exact tok_of tok27
  · cases h; exact tok_of tok31
  · cases h; exact tok_of tok34
  · cases h; exact tok_of tok36
  · cases h; exact tok_of tok42
  · cases h; exact tok_of tok45
  · cases h; exact tok_of tok124
  · cases h; exact tok_of tok125
  · cases h
theorem eqf45 : EqF Try.prog 45 ti45 := eqf_of (by kernel_rfl)
theorem tab_eq (t : Nat) (i : TI) (h : tab t = some i) (e : i.eqf = true) : EqF Try.prog t i := by
  unfold tab at h
  split at h
  · cases h; cases e
  · cases h; cases e
  · cases h; cases e
  · cases h; cases e
  · cases h; cases e
  · cases h; cases e
  · cases h; cases e
  · cases h; cases e
  · cases h; cases e
  · cases h; cases e
  · cases h; cases e
  · cases h; exact eqf45
  · cases h; cases e
  · cases h; cases e
  · cases h
def env : Env Try.prog := ⟨tab, tab_ok, tab_eq⟩
end Go.Fo
