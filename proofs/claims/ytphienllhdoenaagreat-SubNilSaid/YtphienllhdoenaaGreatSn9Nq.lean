/- What nothing answers, reckoned. -/
import Derived.Test.YtphienllhdoenaaGreatSn9F
import Derived.KernelRfl
namespace Go.Fo
set_option maxRecDepth 100000
theorem alive_t : psalterylaw14_alive 300 = some true := by kernel_rfl
theorem rest_t : (some true : Option Bool).bind (fun r6 => bif (!r6) then some false else
    (subband_NewEncoder_2 300 1 0 1 4 4 0 0 2 0 0).bind fun r9 => (subband_NewDecoder 300 1 0 1 4 4 0 0 2 0 0).bind fun r10 => some (bif (r9 == 3) then (r10 == 3) else false)) = some true := by kernel_rfl
theorem subnil_w {p0 p1 p2 p3 p4 p5 p6 p7 p8 p9 : Int} {l : List Int} : psalterylaw14_SubNil 300 p0 p1 p2 p3 p4 p5 p6 p7 p8 p9 l = some true := by
  unfold psalterylaw14_SubNil
  rw [alive_t]
  exact rest_t
end Go.Fo
