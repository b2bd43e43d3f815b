/- What no sink answers, reckoned. -/
import Derived.Test.YtgbfdfkfkfldoaaGreatKnF
import Derived.Test.YtgbfdfkfkfldoaaGreatJ4
import Derived.KernelRfl
namespace Go.Fo
set_option maxRecDepth 100000
theorem alive_t : psalterylaw29_alive 400 = some true := by kernel_rfl
theorem none_t : sink_New_2 400 = some (.inl 3) := by kernel_rfl
theorem sinknil_w (l : List Int) : psalterylaw29_SinkNil 400 l = some true := by
  unfold psalterylaw29_SinkNil
  rw [alive_t, none_t]
  rfl
end Go.Fo
