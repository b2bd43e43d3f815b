/- What the kit's program says of the types that these functions use. -/
import Derived.Test.YtphienllhdoenaaDoorProg
import Derived.Test.YtphienllhdoenaaDoorJ3
namespace Go.Fo
open Go.Proofs
def ti2 : TI := { agg := false, size := 1, bytes := 8, zero := [.int .i64 0], ik := some .i64 }
theorem tok2 : tokb Tryd.prog 2 ti2 = true := by kernel_rfl
def ti3 : TI := { agg := false, size := 1, bytes := 8, zero := [.int .i64 0], ik := some .i64 }
theorem tok3 : tokb Tryd.prog 3 ti3 = true := by kernel_rfl
def ti4 : TI := { agg := false, size := 1, bytes := 1, zero := [.bool false], tag := 1 }
theorem tok4 : tokb Tryd.prog 4 ti4 = true := by kernel_rfl
def ti5 : TI := { agg := false, size := 1, bytes := 1, zero := [.int .u8 0], ik := some .u8 }
theorem tok5 : tokb Tryd.prog 5 ti5 = true := by kernel_rfl
def ti9 : TI := { agg := false, size := 1, bytes := 16, zero := [.str ⟨#[]⟩], tag := 7 }
theorem tok9 : tokb Tryd.prog 9 ti9 = true := by kernel_rfl
def ti21 : TI := { agg := false, size := 1, bytes := 4, zero := [.int .i32 0], ik := some .i32 }
theorem tok21 : tokb Tryd.prog 21 ti21 = true := by kernel_rfl
def ti23 : TI := { agg := false, size := 1, bytes := 24, zero := [.nils], elem := 44, esz := 6, slc := true, ek := some (.pair (.int .i64) (.pair (.int .i64) (.pair (.slice (.int .i16)) (.pair (.slice (.int .u8)) (.pair (.slice (.int .u8)) (.slice (.pair (.int .i64) (.pair (.int .i64) (.pair (.int .i64) (.int .u32)))))))))), eb := 112, tag := 3 }
theorem tok23 : tokb Tryd.prog 23 ti23 = true := by kernel_rfl
def ti27 : TI := { agg := false, size := 1, bytes := 24, zero := [.nils], elem := 60, esz := 6, slc := true, ek := some (.pair (.int .i64) (.pair (.int .i64) (.pair (.slice (.int .i16)) (.pair (.slice (.int .u8)) (.pair (.slice (.int .u8)) (.slice (.pair (.int .i64) (.pair (.int .i64) (.pair (.int .i64) (.int .u32)))))))))), eb := 112, tag := 3 }
theorem tok27 : tokb Tryd.prog 27 ti27 = true := by kernel_rfl
def ti40 : TI := { agg := false, size := 1, bytes := 24, zero := [.nils], elem := 61, esz := 1, slc := true, ek := some (.int .i16), eb := 2, tag := 3 }
theorem tok40 : tokb Tryd.prog 40 ti40 = true := by kernel_rfl
def ti41 : TI := { agg := false, size := 1, bytes := 24, zero := [.nils], elem := 5, esz := 1, slc := true, ek := some (.int .u8), eb := 1, tag := 3 }
theorem tok41 : tokb Tryd.prog 41 ti41 = true := by kernel_rfl
def ti42 : TI := { agg := false, size := 1, bytes := 24, zero := [.nils], elem := 47, esz := 4, slc := true, ek := some (.pair (.int .i64) (.pair (.int .i64) (.pair (.int .i64) (.int .u32)))), eb := 32, tag := 3 }
theorem tok42 : tokb Tryd.prog 42 ti42 = true := by kernel_rfl
def ti44 : TI := { agg := true, size := 6, bytes := 112, zero := [.int .i64 0, .int .i64 0, .nils, .nils, .nils, .nils], fields := [(0, 1, false), (1, 1, false), (2, 1, false), (3, 1, false), (4, 1, false), (5, 1, false)] }
theorem tok44 : tokb Tryd.prog 44 ti44 = true := by kernel_rfl
def ti45 : TI := { agg := false, size := 1, bytes := 4, zero := [.int .u32 0], ik := some .u32 }
theorem tok45 : tokb Tryd.prog 45 ti45 = true := by kernel_rfl
def ti47 : TI := { agg := true, size := 4, bytes := 32, zero := [.int .i64 0, .int .i64 0, .int .i64 0, .int .u32 0], fields := [(0, 1, false), (1, 1, false), (2, 1, false), (3, 1, false)], eqf := true }
theorem tok47 : tokb Tryd.prog 47 ti47 = true := by kernel_rfl
def ti50 : TI := { agg := false, size := 1, bytes := 24, zero := [.nils], elem := 9, esz := 1, slc := true, ek := some (.str), eb := 16, tag := 3 }
theorem tok50 : tokb Tryd.prog 50 ti50 = true := by kernel_rfl
def ti53 : TI := { agg := true, size := 2, bytes := 32, zero := [.nils, .bool false], fields := [(0, 1, false), (1, 1, false)] }
theorem tok53 : tokb Tryd.prog 53 ti53 = true := by kernel_rfl
def ti58 : TI := { agg := false, size := 1, bytes := 24, zero := [.nils], elem := 62, esz := 4, slc := true, ek := some (.pair (.int .i64) (.pair (.int .i64) (.pair (.int .i64) (.int .u32)))), eb := 32, tag := 3 }
theorem tok58 : tokb Tryd.prog 58 ti58 = true := by kernel_rfl
def ti60 : TI := { agg := true, size := 6, bytes := 112, zero := [.int .i64 0, .int .i64 0, .nils, .nils, .nils, .nils], fields := [(0, 1, false), (1, 1, false), (2, 1, false), (3, 1, false), (4, 1, false), (5, 1, false)] }
theorem tok60 : tokb Tryd.prog 60 ti60 = true := by kernel_rfl
def ti61 : TI := { agg := false, size := 1, bytes := 2, zero := [.int .i16 0], ik := some .i16 }
theorem tok61 : tokb Tryd.prog 61 ti61 = true := by kernel_rfl
def ti62 : TI := { agg := true, size := 4, bytes := 32, zero := [.int .i64 0, .int .i64 0, .int .i64 0, .int .u32 0], fields := [(0, 1, false), (1, 1, false), (2, 1, false), (3, 1, false)], eqf := true }
theorem tok62 : tokb Tryd.prog 62 ti62 = true := by kernel_rfl
def ti65 : TI := { agg := true, size := 2, bytes := 32, zero := [.nilp, .nils], fields := [(0, 1, false), (1, 1, false)], bld := true }
theorem tok65 : tokb Tryd.prog 65 ti65 = true := by kernel_rfl
def ti77 : TI := { agg := false, size := 1, bytes := 8, zero := [.nilp], tag := 2 }
theorem tok77 : tokb Tryd.prog 77 ti77 = true := by kernel_rfl
def ti96 : TI := { agg := false, size := 1, bytes := 8, zero := [.int .u64 0], ik := some .u64 }
theorem tok96 : tokb Tryd.prog 96 ti96 = true := by kernel_rfl
def ti116 : TI := { agg := true, size := 4, bytes := 32, zero := [.int .i64 0, .int .i64 0, .int .i64 0, .int .i64 0], fields := [(0, 1, false), (1, 1, false), (2, 1, false), (3, 1, false)] }
theorem tok116 : tokb Tryd.prog 116 ti116 = true := by kernel_rfl
def ti117 : TI := { agg := false, size := 1, bytes := 8, zero := [.nilp], tag := 2 }
theorem tok117 : tokb Tryd.prog 117 ti117 = true := by kernel_rfl
def ti126 : TI := { agg := true, size := 3, bytes := 24, zero := [.int .i64 0, .int .i64 0, .int .i64 0], elem := 3, esz := 1, alen := 3, eagg := false, arr := true }
theorem tok126 : tokb Tryd.prog 126 ti126 = true := by kernel_rfl
def ti137 : TI := { agg := true, size := 6, bytes := 40, zero := [.int .i64 0, .int .i64 0, .int .i64 0, .int .i64 0, .int .u32 0, .bool false], fields := [(0, 4, true), (4, 1, false), (5, 1, false)] }
theorem tok137 : tokb Tryd.prog 137 ti137 = true := by kernel_rfl
def ti145 : TI := { agg := true, size := 4, bytes := 32, zero := [.int .u64 0, .int .u64 0, .int .u64 0, .int .u64 0], elem := 96, esz := 1, alen := 4, eagg := false, arr := true }
theorem tok145 : tokb Tryd.prog 145 ti145 = true := by kernel_rfl
def ti148 : TI := { agg := true, size := 4, bytes := 32, zero := [.int .i64 0, .int .i64 0, .int .i64 0, .int .i64 0], elem := 3, esz := 1, alen := 4, eagg := false, arr := true }
theorem tok148 : tokb Tryd.prog 148 ti148 = true := by kernel_rfl
def tab : Nat → Option TI
  | 2 => some ti2
  | 3 => some ti3
  | 4 => some ti4
  | 5 => some ti5
  | 9 => some ti9
  | 21 => some ti21
  | 23 => some ti23
  | 27 => some ti27
  | 40 => some ti40
  | 41 => some ti41
  | 42 => some ti42
  | 44 => some ti44
  | 45 => some ti45
  | 47 => some ti47
  | 50 => some ti50
  | 53 => some ti53
  | 58 => some ti58
  | 60 => some ti60
  | 61 => some ti61
  | 62 => some ti62
  | 65 => some ti65
  | 77 => some ti77
  | 96 => some ti96
  | 116 => some ti116
  | 117 => some ti117
  | 126 => some ti126
  | 137 => some ti137
  | 145 => some ti145
  | 148 => some ti148
  | _ => none
theorem tab_ok (t : Nat) (i : TI) (h : tab t = some i) : TOK Tryd.prog t i := by
  unfold tab at h
  split at h
  · cases h; exact tok_of tok2
  · cases h; exact tok_of tok3
  · cases h; exact tok_of tok4
  · cases h; exact tok_of tok5
  · cases h; exact tok_of tok9
  · cases h; exact tok_of tok21
  · cases h; exact tok_of tok23
  · cases h; exact tok_of tok27
  · cases h; exact tok_of tok40
  · cases h; exact tok_of tok41
  · cases h; exact tok_of tok42
  · cases h; exact tok_of tok44
  · cases h; exact tok_of tok45
  · cases h; exact tok_of tok47
  · cases h; exact tok_of tok50
  · cases h; exact tok_of tok53
  · cases h; exact tok_of tok58
  · cases h; exact tok_of tok60
  · cases h; exact tok_of tok61
  · cases h; exact tok_of tok62
  · cases h; exact tok_of tok65
  · cases h; exact tok_of tok77
  · cases h; exact tok_of tok96
  · cases h; exact tok_of tok116
  · cases h; exact tok_of tok117
  · cases h; exact tok_of tok126
  · cases h; exact tok_of tok137
  · cases h; exact tok_of tok145
  · cases h; exact tok_of tok148
  · cases h
theorem eqf47 : EqF Tryd.prog 47 ti47 := eqf_of (by kernel_rfl)
theorem eqf62 : EqF Tryd.prog 62 ti62 := eqf_of (by kernel_rfl)
theorem tab_eq (t : Nat) (i : TI) (h : tab t = some i) (e : i.eqf = true) : EqF Tryd.prog t i := by
  unfold tab at h
  split at h
  · cases h; cases e
  · cases h; cases e
  · cases h; cases e
  · cases h; cases e
  · cases h; cases e
  · cases h; cases e
  · cases h; cases e
  · cases h; cases e
  · cases h; cases e
  · cases h; cases e
  · cases h; cases e
  · cases h; cases e
  · cases h; cases e
  · cases h; exact eqf47
  · cases h; cases e
  · cases h; cases e
  · cases h; cases e
  · cases h; cases e
  · cases h; cases e
  · cases h; exact eqf62
  · cases h; cases e
  · cases h; cases e
  · cases h; cases e
  · cases h; cases e
  · cases h; cases e
  · cases h; cases e
  · cases h; cases e
  · cases h; cases e
  · cases h; cases e
  · cases h
theorem tv : True := trivial
def env : Env Tryd.prog := ⟨tab, tab_ok, tab_eq⟩
end Go.Fo
