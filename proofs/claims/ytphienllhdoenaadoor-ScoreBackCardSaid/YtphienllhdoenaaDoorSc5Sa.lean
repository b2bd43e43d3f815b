/- Texts as lists of bytes. -/
import Derived.Test.YtphienllhdoenaaDoorJ3
namespace Go.Fo
set_option maxRecDepth 6000
/-- the bytes of a string, and back -/
def bl (s : ByteArray) : List UInt8 := s.data.toList
def ofl (l : List UInt8) : ByteArray := ⟨l.toArray⟩
theorem bl_ofl (l : List UInt8) : bl (ofl l) = l := by unfold bl ofl; simp
theorem ofl_bl (s : ByteArray) : ofl (bl s) = s := by unfold bl ofl; simp
theorem bl_len (s : ByteArray) : (bl s).length = s.size := rfl
theorem bl_ext (s : ByteArray) (a b : Nat) : s.extract a b = ofl (((bl s).drop a).take (b - a)) := by
  have : bl (s.extract a b) = ((bl s).drop a).take (b - a) := by
    unfold bl
    rw [ByteArray.data_extract, Array.toList_extract]
  rw [← this, ofl_bl]
theorem tol (u : ByteArray) : u.toList = bl u := by
  obtain ⟨⟨l⟩⟩ := u
  exact ByteArray.toList_mk l
theorem beqs_ofl {s t : ByteArray} (h : beqs s t = true) : bl s = bl t := by
  unfold beqs at h
  have h1 := beq_iff_eq.1 h
  rw [tol, tol] at h1; exact h1
theorem sbyte_at (s : ByteArray) (i : Nat) (h : i < s.size) : sbyte s i = (((bl s)[i]'(by rw [bl_len]; exact h)).toNat : Int) := by
  unfold sbyte bl
  rw [getElem?_pos s i h]
  rfl
theorem beqs_bl (s t : ByteArray) : beqs s t = (bl s == bl t) := by unfold beqs; rw [tol, tol]
theorem beqs_nil (w : ByteArray) : beqs w ⟨#[]⟩ = decide (w.size = 0) := by
  rw [beqs_bl, ← bl_len]
  cases bl w with
  | nil => rfl
  | cons x l => rw [decide_eq_false (by simp)]; rfl
end Go.Fo
