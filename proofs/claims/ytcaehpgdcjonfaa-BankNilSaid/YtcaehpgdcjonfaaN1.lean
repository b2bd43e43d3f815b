/- Plain facts on the numbers of the machine. -/
import Derived.Test.YtcaehpgdcjonfaaK3
namespace Go.Fo
theorem kw_u8 (x : Int) : kwrap .u8 x = x % 256 := by simp [kwrap, IntKind.wrap, IntKind.signed, IntKind.bits]
theorem kw_u16 (x : Int) : kwrap .u16 x = x % 65536 := by simp [kwrap, IntKind.wrap, IntKind.signed, IntKind.bits]
theorem kw_u32 (x : Int) : kwrap .u32 x = x % 4294967296 := by simp [kwrap, IntKind.wrap, IntKind.signed, IntKind.bits]
theorem kw_u64 (x : Int) : kwrap .u64 x = x % 18446744073709551616 := by simp [kwrap, IntKind.wrap, IntKind.signed, IntKind.bits]
theorem kw_i64 {x : Int} (h0 : -9223372036854775808 ≤ x) (h1 : x ≤ 9223372036854775807) : kwrap .i64 x = x := by
  simp only [kwrap, IntKind.wrap, IntKind.signed, IntKind.bits]
  simp
  split <;> omega
theorem kw_i32 {x : Int} (h0 : -2147483648 ≤ x) (h1 : x ≤ 2147483647) : kwrap .i32 x = x := by
  simp only [kwrap, IntKind.wrap, IntKind.signed, IntKind.bits]
  simp
  split <;> omega
theorem kw_i16 {x : Int} (h0 : -32768 ≤ x) (h1 : x ≤ 32767) : kwrap .i16 x = x := by
  simp only [kwrap, IntKind.wrap, IntKind.signed, IntKind.bits]
  simp
  split <;> omega
end Go.Fo
