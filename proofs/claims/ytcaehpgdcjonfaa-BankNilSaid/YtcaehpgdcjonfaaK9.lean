/- A law's arguments, opened. -/
import Derived.Test.YtcaehpgdcjonfaaK8
import Derived.WideShapes
namespace Go.Fo
open Go.WideShapes

section
variable {H : Type} {enc : TypeId × Value → H} {P : Program} {W : World} {base : Nat} {r : Reach} {t : TypeId} {v : Value} {d : DataW H} {ps : List MemPlace}

theorem arg_int {k : IntKind} (hu : P.underlying t = some (.int k)) (ho : Value.okWide P W r base t v) (h : DataW.Trod enc P W 0 (fun _ => true) true t v d ps) : ∃ x : Int, v = .int k x ∧ (Kd.int k).wf x := by
  obtain ⟨n, rfl⟩ := okWide_int hu ho
  obtain ⟨f, h⟩ := h
  obtain ⟨y, hy, wy⟩ := open_R f 1 (.int k) t _ _ (by simp [kdB, hu]) h
  have : n = y := by simpa [Value.cells, Kd.R] using hy
  subst this
  exact ⟨_, rfl, wy⟩
theorem arg_bool (hu : P.underlying t = some .bool) (ho : Value.okWide P W r base t v) : ∃ b, v = .bool b := okWide_bool hu ho
theorem arg_str (hu : P.underlying t = some .string) (ho : Value.okWide P W r base t v) (h : DataW.Trod enc P W 0 (fun _ => true) true t v d ps) : ∃ s : ByteArray, v = .string s ∧ Kd.wf .str s := by
  obtain ⟨n, rfl⟩ := okWide_string hu ho
  obtain ⟨f, h⟩ := h
  obtain ⟨y, hy, wy⟩ := open_R f 1 .str t _ _ (by simp [kdB, hu]) h
  have : n = y := by simpa [Value.cells, Kd.R] using hy
  subst this
  exact ⟨_, rfl, wy⟩
theorem arg_slice {u : TypeId} {e : Kd} {q : Nat} (hu : P.underlying t = some (.slice u)) (hk : kdB P q (.slice e) t = true) (ho : Value.okWide P W r base t v) (h : DataW.Trod enc P W 0 (fun _ => true) true t v d ps) (ρ : Nat → Hd) :
    ∃ l : List e.T, Cv ρ (snap W) (.im (.slice e) l) v ∧ (Kd.slice e).wf l := by
  obtain ⟨a, n, c, rfl⟩ := okWide_slice hu ho
  obtain ⟨f, h⟩ := h
  obtain ⟨y, hy, wy⟩ := open_R f q (.slice e) t _ _ hk h
  exact ⟨y, show (Kd.slice e).R (snap W) y [.slice a n c] from by simpa [Value.cells] using hy, wy⟩
theorem arg_struct {fs : Array Field} {k : Kd} {q : Nat} (hu : P.underlying t = some (.struct fs)) (hk : kdB P q k t = true) (ho : Value.okWide P W r base t v) (h : DataW.Trod enc P W 0 (fun _ => true) true t v d ps) (ρ : Nat → Hd) :
    ∃ y : k.T, Cv ρ (snap W) (.agg (k.flat y)) v ∧ k.wf y := by
  obtain ⟨cs, rfl, _⟩ := okWide_struct hu ho
  obtain ⟨f, h⟩ := h
  obtain ⟨y, hy, wy⟩ := open_R f q k t _ _ hk h
  exact ⟨y, ⟨cs.toList, by simp, flat_ok k y _ (by simpa [Value.cells] using hy)⟩, wy⟩
end

end Go.Fo
