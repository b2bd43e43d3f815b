/- What nothing answers, reckoned. -/
import Derived.Test.YtgiekbffblmgpaaGreatLnF
import Derived.Test.YtgiekbffblmgpaaGreatJ4
import Derived.KernelRfl
namespace Go.Fo
set_option maxRecDepth 100000
theorem XX:qh 400=some true := by kernel_rfl
theorem V2:wx 400 2 0 1 0 0 0 0 0 40 20=some (.inl 3) := by kernel_rfl
theorem Uc:wt 400 2 0 1 0 0 0 0 0 40 20=some (.inl 3) := by kernel_rfl
theorem lapnil_w (s:List Int):psalterylaw21_LapNil 400 s=some true := by
  unfold psalterylaw21_LapNil
  rw [XX, V2, Uc]
  rfl
end Go.Fo
