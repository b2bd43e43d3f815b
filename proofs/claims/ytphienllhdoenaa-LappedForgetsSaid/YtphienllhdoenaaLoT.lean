/- What the kit's program says of the types that these functions use. -/
import Derived.Test.YtphienllhdoenaaProg
import Derived.Test.YtphienllhdoenaaJ3
namespace Go.Fo
open Go.Proofs
def ti2 : TI := { agg := false, size := 1, bytes := 8, zero := [.int .i64 0], ik := some .i64 }
theorem tok2 : tokb Try.prog 2 ti2 = true := by kernel_rfl
def ti3 : TI := { agg := false, size := 1, bytes := 8, zero := [.int .i64 0], ik := some .i64 }
theorem tok3 : tokb Try.prog 3 ti3 = true := by kernel_rfl
def ti5 : TI := { agg := false, size := 1, bytes := 1, zero := [.int .u8 0], ik := some .u8 }
theorem tok5 : tokb Try.prog 5 ti5 = true := by kernel_rfl
def ti21 : TI := { agg := false, size := 1, bytes := 4, zero := [.int .i32 0], ik := some .i32 }
theorem tok21 : tokb Try.prog 21 ti21 = true := by kernel_rfl
def ti22 : TI := { agg := false, size := 1, bytes := 24, zero := [.nils], elem := 32, esz := 1, slc := true, ek := some (.int .i16), eb := 2, tag := 3 }
theorem tok22 : tokb Try.prog 22 ti22 = true := by kernel_rfl
def ti28 : TI := { agg := false, size := 1, bytes := 8, zero := [.nilp], tag := 2 }
theorem tok28 : tokb Try.prog 28 ti28 = true := by kernel_rfl
def ti30 : TI := { agg := false, size := 1, bytes := 24, zero := [.nils], elem := 22, esz := 1, slc := true, tag := 3 }
theorem tok30 : tokb Try.prog 30 ti30 = true := by kernel_rfl
def ti32 : TI := { agg := false, size := 1, bytes := 2, zero := [.int .i16 0], ik := some .i16 }
theorem tok32 : tokb Try.prog 32 ti32 = true := by kernel_rfl
def ti33 : TI := { agg := false, size := 1, bytes := 24, zero := [.nils], elem := 21, esz := 1, slc := true, ek := some (.int .i32), eb := 4, tag := 3 }
theorem tok33 : tokb Try.prog 33 ti33 = true := by kernel_rfl
def ti52 : TI := { agg := false, size := 1, bytes := 8, zero := [.nilp], tag := 2 }
theorem tok52 : tokb Try.prog 52 ti52 = true := by kernel_rfl
def ti59 : TI := { agg := false, size := 1, bytes := 8, zero := [.nilp], tag := 2 }
theorem tok59 : tokb Try.prog 59 ti59 = true := by kernel_rfl
def ti64 : TI := { agg := false, size := 1, bytes := 24, zero := [.nils], elem := 2, esz := 1, slc := true, ek := some (.int .i64), eb := 8, tag := 3 }
theorem tok64 : tokb Try.prog 64 ti64 = true := by kernel_rfl
def ti87 : TI := { agg := true, size := 3, bytes := 12, zero := [.int .u32 0, .int .i32 0, .int .u32 0], fields := [(0, 0, true), (0, 1, true), (1, 2, true)] }
theorem tok87 : tokb Try.prog 87 ti87 = true := by kernel_rfl
def ti89 : TI := { agg := true, size := 4, bytes := 40, zero := [.int .u32 0, .int .i32 0, .int .u32 0, .nils], fields := [(0, 3, true), (3, 1, false)] }
theorem tok89 : tokb Try.prog 89 ti89 = true := by kernel_rfl
def ti90 : TI := { agg := true, size := 1028, bytes := 10280, zero := tcs (List.replicate 257 none), elem := 89, esz := 4, alen := 257, eagg := true, arr := true }
theorem tok90 : tokb Try.prog 90 ti90 = true := by kernel_rfl
def ti91 : TI := { agg := true, size := 516, bytes := 5160, zero := tcs (List.replicate 129 none), elem := 89, esz := 4, alen := 129, eagg := true, arr := true }
theorem tok91 : tokb Try.prog 91 ti91 = true := by kernel_rfl
def ti97 : TI := { agg := true, size := 1554, bytes := 15536, zero := pst (List.replicate 388 none) 0 0, fields := [(0, 1028, true), (1028, 516, true), (1544, 8, true), (1552, 1, true), (1553, 1, true)] }
theorem tok97 : tokb Try.prog 97 ti97 = true := by kernel_rfl
def ti104 : TI := { agg := false, size := 1, bytes := 24, zero := [.nils], elem := 3, esz := 1, slc := true, ek := some (.int .i64), eb := 8, tag := 3 }
theorem tok104 : tokb Try.prog 104 ti104 = true := by kernel_rfl
def ti107 : TI := { agg := true, size := 3, bytes := 56, zero := [.int .i64 0, .nils, .nils], fields := [(0, 1, false), (1, 1, false), (2, 1, false)] }
theorem tok107 : tokb Try.prog 107 ti107 = true := by kernel_rfl
def ti111 : TI := { agg := true, size := 4, bytes := 80, zero := [.int .i64 0, .nils, .nils, .nils], fields := [(0, 3, true), (3, 1, false)] }
theorem tok111 : tokb Try.prog 111 ti111 = true := by kernel_rfl
def ti116 : TI := { agg := true, size := 4, bytes := 32, zero := [.int .i64 0, .int .i64 0, .int .i64 0, .int .i64 0], elem := 3, esz := 1, alen := 4, eagg := false, arr := true }
theorem tok116 : tokb Try.prog 116 ti116 = true := by kernel_rfl
def ti124 : TI := { agg := true, size := 4, bytes := 80, zero := [.int .i64 0, .nils, .nils, .nils], fields := [(0, 3, true), (3, 1, false)] }
theorem tok124 : tokb Try.prog 124 ti124 = true := by kernel_rfl
def ti133 : TI := { agg := false, size := 1, bytes := 8, zero := [.int .u64 0], ik := some .u64 }
theorem tok133 : tokb Try.prog 133 ti133 = true := by kernel_rfl
def ti139 : TI := { agg := false, size := 1, bytes := 8, zero := [.nilp], tag := 2 }
theorem tok139 : tokb Try.prog 139 ti139 = true := by kernel_rfl
def ti142 : TI := { agg := false, size := 1, bytes := 8, zero := [.nilf], tag := 4 }
theorem tok142 : tokb Try.prog 142 ti142 = true := by kernel_rfl
def ti149 : TI := { agg := false, size := 1, bytes := 8, zero := [.int .u64 0], ik := some .u64 }
theorem tok149 : tokb Try.prog 149 ti149 = true := by kernel_rfl
def ti159 : TI := { agg := true, size := 4, bytes := 32, zero := [.int .u64 0, .int .u64 0, .int .u64 0, .int .u64 0], elem := 149, esz := 1, alen := 4, eagg := false, arr := true }
theorem tok159 : tokb Try.prog 159 ti159 = true := by kernel_rfl
def tab : Nat → Option TI
  | 2 => some ti2
  | 3 => some ti3
  | 5 => some ti5
  | 21 => some ti21
  | 22 => some ti22
  | 28 => some ti28
  | 30 => some ti30
  | 32 => some ti32
  | 33 => some ti33
  | 52 => some ti52
  | 59 => some ti59
  | 64 => some ti64
  | 87 => some ti87
  | 89 => some ti89
  | 90 => some ti90
  | 91 => some ti91
  | 97 => some ti97
  | 104 => some ti104
  | 107 => some ti107
  | 111 => some ti111
  | 116 => some ti116
  | 124 => some ti124
  | 133 => some ti133
  | 139 => some ti139
  | 142 => some ti142
  | 149 => some ti149
  | 159 => some ti159
  | _ => none
theorem tab_ok (t : Nat) (i : TI) (h : tab t = some i) : TOK Try.prog t i := by
  unfold tab at h
  split at h
  · cases h; exact tok_of tok2
  · cases h; exact tok_of tok3
  · cases h; exact tok_of tok5
  · cases h; exact tok_of tok21
  · cases h; exact tok_of tok22
  · cases h; exact tok_of tok28
  · cases h; exact tok_of tok30
  · cases h; exact tok_of tok32
  · cases h; exact tok_of tok33
  · cases h; exact tok_of tok52
  · cases h; exact tok_of tok59
  · cases h; exact tok_of tok64
  · cases h; exact tok_of tok87
  · cases h; exact tok_of tok89
  · cases h; exact tok_of tok90
  · cases h; exact tok_of tok91
  · cases h; exact tok_of tok97
  · cases h; exact tok_of tok104
  · cases h; exact tok_of tok107
  · cases h; exact tok_of tok111
  · cases h; exact tok_of tok116
  · cases h; exact tok_of tok124
  · cases h; exact tok_of tok133
  · cases h; exact tok_of tok139
  · cases h; exact tok_of tok142
  · cases h; exact tok_of tok149
  · cases h; exact tok_of tok159
  · cases h
theorem tab_eq (t : Nat) (i : TI) (h : tab t = some i) (e : i.eqf = true) : EqF Try.prog t i := by
  unfold tab at h
  split at h
  · cases h; cases e
  · cases h; cases e
  · cases h; cases e
  · cases h; cases e
  · cases h; cases e
  · cases h; cases e
  · cases h; cases e
  · cases h; cases e
  · cases h; cases e
  · cases h; cases e
  · cases h; cases e
  · cases h; cases e
  · cases h; cases e
  · cases h; cases e
  · cases h; cases e
  · cases h; cases e
  · cases h; cases e
  · cases h; cases e
  · cases h; cases e
  · cases h; cases e
  · cases h; cases e
  · cases h; cases e
  · cases h; cases e
  · cases h; cases e
  · cases h; cases e
  · cases h; cases e
  · cases h; cases e
  · cases h
theorem tv : True := trivial
def env : Env Try.prog := ⟨tab, tab_ok, tab_eq⟩
end Go.Fo
