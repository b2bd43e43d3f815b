/- The ranges of opened numbers. -/
import Derived.Test.YtcaehpgdcjonfaaK9
namespace Go.Fo
theorem wf_u8 {x : Int} (h : (Kd.int .u8).wf x) : 0 ≤ x ∧ x < 256 := by
  simp only [Kd.wf, Lit.wf, IntKind.min, IntKind.max, IntKind.signed, IntKind.bits, Bool.and_eq_true, decide_eq_true_eq, if_true, Bool.false_eq_true, if_false] at h; omega
theorem wf_u16 {x : Int} (h : (Kd.int .u16).wf x) : 0 ≤ x ∧ x < 65536 := by
  simp only [Kd.wf, Lit.wf, IntKind.min, IntKind.max, IntKind.signed, IntKind.bits, Bool.and_eq_true, decide_eq_true_eq, if_true, Bool.false_eq_true, if_false] at h; omega
theorem wf_u32 {x : Int} (h : (Kd.int .u32).wf x) : 0 ≤ x ∧ x < 4294967296 := by
  simp only [Kd.wf, Lit.wf, IntKind.min, IntKind.max, IntKind.signed, IntKind.bits, Bool.and_eq_true, decide_eq_true_eq, if_true, Bool.false_eq_true, if_false] at h; omega
theorem wf_u64 {x : Int} (h : (Kd.int .u64).wf x) : 0 ≤ x ∧ x < 18446744073709551616 := by
  simp only [Kd.wf, Lit.wf, IntKind.min, IntKind.max, IntKind.signed, IntKind.bits, Bool.and_eq_true, decide_eq_true_eq, if_true, Bool.false_eq_true, if_false] at h; omega
theorem wf_i16 {x : Int} (h : (Kd.int .i16).wf x) : -32768 ≤ x ∧ x ≤ 32767 := by
  simp only [Kd.wf, Lit.wf, IntKind.min, IntKind.max, IntKind.signed, IntKind.bits, Bool.and_eq_true, decide_eq_true_eq, if_true, Bool.false_eq_true, if_false] at h; omega
theorem wf_i32 {x : Int} (h : (Kd.int .i32).wf x) : -2147483648 ≤ x ∧ x ≤ 2147483647 := by
  simp only [Kd.wf, Lit.wf, IntKind.min, IntKind.max, IntKind.signed, IntKind.bits, Bool.and_eq_true, decide_eq_true_eq, if_true, Bool.false_eq_true, if_false] at h; omega
theorem wf_i64 {x : Int} (h : (Kd.int .i64).wf x) : -9223372036854775808 ≤ x ∧ x ≤ 9223372036854775807 := by
  simp only [Kd.wf, Lit.wf, IntKind.min, IntKind.max, IntKind.signed, IntKind.bits, Bool.and_eq_true, decide_eq_true_eq, if_true, Bool.false_eq_true, if_false] at h; omega
end Go.Fo
