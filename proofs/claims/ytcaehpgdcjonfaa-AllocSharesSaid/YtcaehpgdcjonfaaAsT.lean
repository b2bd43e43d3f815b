/- What the kit's program says of the types that these functions use. -/
import Derived.Test.YtcaehpgdcjonfaaProg
import Derived.Test.YtcaehpgdcjonfaaQ4
namespace Go.Fo
open Go.Proofs
def ti3 : TI := { agg := false, size := 1, bytes := 8, zero := [.int .i64 0], ik := some .i64 }
theorem tok3 : tokb Try.prog 3 ti3 = true := by kernel_rfl
def ti4 : TI := { agg := false, size := 1, bytes := 1, zero := [.bool false], tag := 1 }
theorem tok4 : tokb Try.prog 4 ti4 = true := by kernel_rfl
def ti25 : TI := { agg := false, size := 1, bytes := 24, zero := [.nils], elem := 3, esz := 1, slc := true, ek := some (.int .i64), eb := 8, tag := 3 }
theorem tok25 : tokb Try.prog 25 ti25 = true := by kernel_rfl
def ti50 : TI := { agg := true, size := 10, bytes := 80, zero := [.int .i64 0, .int .i64 0, .int .i64 0, .int .i64 0, .int .i64 0, .int .i64 0, .int .i64 0, .int .i64 0, .int .i64 0, .int .i64 0], fields := [(0, 1, false), (1, 1, false), (2, 1, false), (3, 1, false), (4, 1, false), (5, 1, false), (6, 1, false), (7, 1, false), (8, 1, false), (9, 1, false)] }
theorem tok50 : tokb Try.prog 50 ti50 = true := by kernel_rfl
def ti81 : TI := { agg := false, size := 1, bytes := 24, zero := [.nils], elem := 25, esz := 1, slc := true, tag := 3 }
theorem tok81 : tokb Try.prog 81 ti81 = true := by kernel_rfl
def ti125 : TI := { agg := true, size := 4, bytes := 32, zero := [.int .i64 0, .int .i64 0, .int .i64 0, .int .i64 0], elem := 3, esz := 1, alen := 4, eagg := false, arr := true }
theorem tok125 : tokb Try.prog 125 ti125 = true := by kernel_rfl
def ti142 : TI := { agg := false, size := 1, bytes := 8, zero := [.nilp], tag := 2 }
theorem tok142 : tokb Try.prog 142 ti142 = true := by kernel_rfl
def ti144 : TI := { agg := true, size := 5, bytes := 72, zero := [.int .i64 0, .int .i64 0, .int .i64 0, .nils, .nils], fields := [(0, 1, false), (1, 1, false), (2, 1, false), (3, 1, false), (4, 1, false)] }
theorem tok144 : tokb Try.prog 144 ti144 = true := by kernel_rfl
def ti204 : TI := { agg := false, size := 1, bytes := 24, zero := [.nils], elem := 4, esz := 1, slc := true, ek := some (.bool), eb := 1, tag := 3 }
theorem tok204 : tokb Try.prog 204 ti204 = true := by kernel_rfl
def ti206 : TI := { agg := true, size := 16, bytes := 128, zero := [.int .i64 0, .int .i64 0, .int .i64 0, .int .i64 0, .int .i64 0, .int .i64 0, .int .i64 0, .int .i64 0, .int .i64 0, .int .i64 0, .int .i64 0, .int .i64 0, .int .i64 0, .int .i64 0, .int .i64 0, .int .i64 0], elem := 125, esz := 4, alen := 4, eagg := true, arr := true }
theorem tok206 : tokb Try.prog 206 ti206 = true := by kernel_rfl
def ti208 : TI := { agg := true, size := 8, bytes := 64, zero := [.int .i64 0, .int .i64 0, .int .i64 0, .int .i64 0, .int .i64 0, .int .i64 0, .int .i64 0, .int .i64 0], elem := 3, esz := 1, alen := 8, eagg := false, arr := true }
theorem tok208 : tokb Try.prog 208 ti208 = true := by kernel_rfl
def ti209 : TI := { agg := true, size := 32, bytes := 256, zero := [.int .i64 0, .int .i64 0, .int .i64 0, .int .i64 0, .int .i64 0, .int .i64 0, .int .i64 0, .int .i64 0, .int .i64 0, .int .i64 0, .int .i64 0, .int .i64 0, .int .i64 0, .int .i64 0, .int .i64 0, .int .i64 0, .int .i64 0, .int .i64 0, .int .i64 0, .int .i64 0, .int .i64 0, .int .i64 0, .int .i64 0, .int .i64 0, .int .i64 0, .int .i64 0, .int .i64 0, .int .i64 0, .int .i64 0, .int .i64 0, .int .i64 0, .int .i64 0], elem := 208, esz := 8, alen := 4, eagg := true, arr := true }
theorem tok209 : tokb Try.prog 209 ti209 = true := by kernel_rfl
def tab : Nat → Option TI
  | 3 => some ti3
  | 4 => some ti4
  | 25 => some ti25
  | 50 => some ti50
  | 81 => some ti81
  | 125 => some ti125
  | 142 => some ti142
  | 144 => some ti144
  | 204 => some ti204
  | 206 => some ti206
  | 208 => some ti208
  | 209 => some ti209
  | _ => none
theorem tab_ok (t : Nat) (i : TI) (h : tab t = some i) : TOK Try.prog t i := by
  unfold tab at h
  split at h
  · cases h; exact tok_of tok3
  · cases h; exact tok_of tok4
  · cases h; exact tok_of tok25
  · cases h; exact tok_of tok50
  · cases h; exact tok_of tok81
  · cases h; exact tok_of tok125
  · cases h; exact tok_of tok142
  · cases h; exact tok_of tok144
  · cases h; exact tok_of tok204
  · cases h; exact tok_of tok206
  · cases h; exact tok_of tok208
  · cases h; exact tok_of tok209
  · cases h
theorem tab_eq (t : Nat) (i : TI) (h : tab t = some i) (e : i.eqf = true) : EqF Try.prog t i := by
  unfold tab at h
  split at h
  · cases h; cases e
  · cases h; cases e
  · cases h; cases e
  · cases h; cases e
  · cases h; cases e
  · cases h; cases e
  · cases h; cases e
  · cases h; cases e
  · cases h; cases e
  · cases h; cases e
  · cases h; cases e
  · cases h; cases e
  · cases h
theorem tv : True := trivial
def env : Env Try.prog := ⟨tab, tab_ok, tab_eq⟩
end Go.Fo
