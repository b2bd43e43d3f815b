/- What a look through the form of the program tells of the law SubFrames: its name, its row and its form fit. -/
import Derived.Test.YtiihmaaobmpabaaGreatRows
import Derived.JoinedOf
namespace Go.Proofs.YtiihmaaobmpabaaGreat
theorem sfNamed : Tryz.pinned.checked.prog.funcNamed Rows.subFramesRow.func = some 3 := by kernel_rfl
theorem sfInst : Tryz.f3.isInstance Tryz.pinned.checked.prog Rows.subFramesRow.origin Rows.subFramesRow.targs := of_decide_eq_true (by kernel_rfl)
theorem sfWrap : Tryz.f3.isWrapper Tryz.pinned.checked.prog Rows.subFramesRow.wrapper Rows.subFramesRow.mainSum := by unfold Func.isWrapper; rw [if_neg (of_decide_eq_false (by kernel_rfl))]; exact ⟨rfl, rfl⟩
end Go.Proofs.YtiihmaaobmpabaaGreat
