/- Steps forward through the plain functions. -/
import Derived.Test.YtcaehpgdcjonfaaK3
namespace Go.Fo
theorem bif_eq_t {α : Type} {b : Bool} {x y r : α} (hb : b = true) (h : x = r) : (bif b then x else y) = r := by rw [hb]; exact h
theorem bif_eq_f {α : Type} {b : Bool} {x y r : α} (hb : b = false) (h : y = r) : (bif b then x else y) = r := by rw [hb]; exact h
theorem bnd_eq {α β : Type} {o : Option α} {f : α → Option β} {x : α} {r : Option β} (h : o = some x) (k : f x = r) : o.bind f = r := by rw [h]; exact k
theorem gd_eq {α : Type} {C : Prop} [Decidable C] {x r : Option α} (h : C) (k : x = r) : gd C x = r := (gd_pos h).trans k
end Go.Fo
