/- What no player answers, reckoned. -/
import Derived.Test.YtbjcfghbmhcajaaGreatHnF
import Derived.Test.YtbjcfghbmhcajaaGreatJ4
import Derived.KernelRfl
namespace Go.Fo
set_option maxRecDepth 100000
theorem alive_t : psalterylaw22_alive 400 = some true := by kernel_rfl
theorem none_t : hide_NewPlayer_2 400 = some (.inl 3) := by kernel_rfl
theorem hidenil_w (s : ByteArray) : psalterylaw22_HideNil 400 s = some true := by
  unfold psalterylaw22_HideNil
  rw [alive_t, none_t]
  rfl
end Go.Fo
