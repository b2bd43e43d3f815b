/- What a look through the form of the program tells of the law ScorePrints: its name, its row and its form fit. -/
import Derived.Test.YtphienllhdoenaaDoorRows
import Derived.JoinedOf
namespace Go.Proofs.YtphienllhdoenaaDoor
theorem sc4Named : Tryd.pinned.checked.prog.funcNamed Rows.scorePrintsRow.func = some 4 := by kernel_rfl
theorem sc4Inst : Tryd.f4.isInstance Tryd.pinned.checked.prog Rows.scorePrintsRow.origin Rows.scorePrintsRow.targs := of_decide_eq_true (by kernel_rfl)
theorem sc4Wrap : Tryd.f4.isWrapper Tryd.pinned.checked.prog Rows.scorePrintsRow.wrapper Rows.scorePrintsRow.mainSum := by unfold Func.isWrapper; rw [if_neg (of_decide_eq_false (by kernel_rfl))]; exact ⟨rfl, rfl⟩
end Go.Proofs.YtphienllhdoenaaDoor
