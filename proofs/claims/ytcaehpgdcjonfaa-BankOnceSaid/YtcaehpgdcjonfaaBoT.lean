/- What the kit's program says of the types that these functions use. -/
import Derived.Test.YtcaehpgdcjonfaaProg
import Derived.Test.YtcaehpgdcjonfaaJ3
namespace Go.Fo
open Go.Proofs
def ti2 : TI := { agg := false, size := 1, bytes := 8, zero := [.int .i64 0], ik := some .i64 }
theorem tok2 : tokb Try.prog 2 ti2 = true := by kernel_rfl
def ti3 : TI := { agg := false, size := 1, bytes := 8, zero := [.int .i64 0], ik := some .i64 }
theorem tok3 : tokb Try.prog 3 ti3 = true := by kernel_rfl
def ti34 : TI := { agg := false, size := 1, bytes := 8, zero := [.int .u64 0], ik := some .u64 }
theorem tok34 : tokb Try.prog 34 ti34 = true := by kernel_rfl
def ti89 : TI := { agg := false, size := 1, bytes := 24, zero := [.nils], elem := 96, esz := 2, slc := true, ek := some (.pair (.int .i64) (.int .i64)), eb := 16, tag := 3 }
theorem tok89 : tokb Try.prog 89 ti89 = true := by kernel_rfl
def ti90 : TI := { agg := false, size := 1, bytes := 8, zero := [.nilp], tag := 2 }
theorem tok90 : tokb Try.prog 90 ti90 = true := by kernel_rfl
def ti92 : TI := { agg := false, size := 1, bytes := 24, zero := [.nils], elem := 99, esz := 1, slc := true, ek := some (.int .i16), eb := 2, tag := 3 }
theorem tok92 : tokb Try.prog 92 ti92 = true := by kernel_rfl
def ti96 : TI := { agg := true, size := 2, bytes := 16, zero := [.int .i64 0, .int .i64 0], fields := [(0, 1, false), (1, 1, false)] }
theorem tok96 : tokb Try.prog 96 ti96 = true := by kernel_rfl
def ti99 : TI := { agg := false, size := 1, bytes := 2, zero := [.int .i16 0], ik := some .i16 }
theorem tok99 : tokb Try.prog 99 ti99 = true := by kernel_rfl
def ti126 : TI := { agg := false, size := 1, bytes := 8, zero := [.int .u64 0], ik := some .u64 }
theorem tok126 : tokb Try.prog 126 ti126 = true := by kernel_rfl
def ti161 : TI := { agg := true, size := 3, bytes := 12, zero := [.int .u32 0, .int .i32 0, .int .u32 0], fields := [(0, 0, true), (0, 1, true), (1, 2, true)] }
theorem tok161 : tokb Try.prog 161 ti161 = true := by kernel_rfl
def ti163 : TI := { agg := true, size := 4, bytes := 40, zero := [.int .u32 0, .int .i32 0, .int .u32 0, .nils], fields := [(0, 3, true), (3, 1, false)] }
theorem tok163 : tokb Try.prog 163 ti163 = true := by kernel_rfl
def ti164 : TI := { agg := true, size := 1028, bytes := 10280, zero := tcs (List.replicate 257 none), elem := 163, esz := 4, alen := 257, eagg := true, arr := true }
theorem tok164 : tokb Try.prog 164 ti164 = true := by kernel_rfl
def ti165 : TI := { agg := true, size := 516, bytes := 5160, zero := tcs (List.replicate 129 none), elem := 163, esz := 4, alen := 129, eagg := true, arr := true }
theorem tok165 : tokb Try.prog 165 ti165 = true := by kernel_rfl
def ti166 : TI := { agg := true, size := 8, bytes := 80, zero := [.int .u32 0, .int .i32 0, .int .u32 0, .nils, .int .u32 0, .int .i32 0, .int .u32 0, .nils], elem := 163, esz := 4, alen := 2, eagg := true, arr := true }
theorem tok166 : tokb Try.prog 166 ti166 = true := by kernel_rfl
def ti171 : TI := { agg := true, size := 1554, bytes := 15536, zero := pst (List.replicate 388 none) 0 0, fields := [(0, 1028, true), (1028, 516, true), (1544, 8, true), (1552, 1, true), (1553, 1, true)] }
theorem tok171 : tokb Try.prog 171 ti171 = true := by kernel_rfl
def ti190 : TI := { agg := false, size := 1, bytes := 8, zero := [.nilp], tag := 2 }
theorem tok190 : tokb Try.prog 190 ti190 = true := by kernel_rfl
def ti193 : TI := { agg := false, size := 1, bytes := 8, zero := [.nilf], tag := 4 }
theorem tok193 : tokb Try.prog 193 ti193 = true := by kernel_rfl
def ti222 : TI := { agg := true, size := 4, bytes := 32, zero := [.int .u64 0, .int .u64 0, .int .u64 0, .int .u64 0], elem := 34, esz := 1, alen := 4, eagg := false, arr := true }
theorem tok222 : tokb Try.prog 222 ti222 = true := by kernel_rfl
def tab : Nat → Option TI
  | 2 => some ti2
  | 3 => some ti3
  | 34 => some ti34
  | 89 => some ti89
  | 90 => some ti90
  | 92 => some ti92
  | 96 => some ti96
  | 99 => some ti99
  | 126 => some ti126
  | 161 => some ti161
  | 163 => some ti163
  | 164 => some ti164
  | 165 => some ti165
  | 166 => some ti166
  | 171 => some ti171
  | 190 => some ti190
  | 193 => some ti193
  | 222 => some ti222
  | _ => none
theorem tab_ok (t : Nat) (i : TI) (h : tab t = some i) : TOK Try.prog t i := by
  unfold tab at h
  split at h
  · cases h; exact tok_of tok2
  · cases h; exact tok_of tok3
  · cases h; exact tok_of tok34
  · cases h; exact tok_of tok89
  · cases h; exact tok_of tok90
  · cases h; exact tok_of tok92
  · cases h; exact tok_of tok96
  · cases h; exact tok_of tok99
  · cases h; exact tok_of tok126
  · cases h; exact tok_of tok161
  · cases h; exact tok_of tok163
  · cases h; exact tok_of tok164
  · cases h; exact tok_of tok165
  · cases h; exact tok_of tok166
  · cases h; exact tok_of tok171
  · cases h; exact tok_of tok190
  · cases h; exact tok_of tok193
  · cases h; exact tok_of tok222
  · cases h
theorem tab_eq (t : Nat) (i : TI) (h : tab t = some i) (e : i.eqf = true) : EqF Try.prog t i := by
  unfold tab at h
  split at h
  · cases h; cases e
  · cases h; cases e
  · cases h; cases e
  · cases h; cases e
  · cases h; cases e
  · cases h; cases e
  · cases h; cases e
  · cases h; cases e
  · cases h; cases e
  · cases h; cases e
  · cases h; cases e
  · cases h; cases e
  · cases h; cases e
  · cases h; cases e
  · cases h; cases e
  · cases h; cases e
  · cases h; cases e
  · cases h; cases e
  · cases h
theorem tv : True := trivial
def env : Env Try.prog := ⟨tab, tab_ok, tab_eq⟩
end Go.Fo
