/- What a look through the form of the program tells of the law SubAnalyses: its name, its row and its form fit. -/
import Derived.Test.YtiihmaaobmpababGreatRows
import Derived.JoinedOf
namespace Go.Proofs.YtiihmaaobmpababGreat
theorem saNamed : Tryz.pinned.checked.prog.funcNamed Rows.subAnalysesRow.func = some 3 := by kernel_rfl
theorem saInst : Tryz.f3.isInstance Tryz.pinned.checked.prog Rows.subAnalysesRow.origin Rows.subAnalysesRow.targs := of_decide_eq_true (by kernel_rfl)
theorem saWrap : Tryz.f3.isWrapper Tryz.pinned.checked.prog Rows.subAnalysesRow.wrapper Rows.subAnalysesRow.mainSum := by unfold Func.isWrapper; rw [if_neg (of_decide_eq_false (by kernel_rfl))]; exact ⟨rfl, rfl⟩
end Go.Proofs.YtiihmaaobmpababGreat
