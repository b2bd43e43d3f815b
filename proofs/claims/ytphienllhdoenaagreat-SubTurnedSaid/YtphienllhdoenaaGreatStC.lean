/- What a look through the form of the program tells of the law SubTurned: its name, its row and its form fit. -/
import Derived.Test.YtphienllhdoenaaGreatRows
import Derived.JoinedOf
namespace Go.Proofs.YtphienllhdoenaaGreat
theorem stNamed : Tryz.pinned.checked.prog.funcNamed Rows.subTurnedRow.func = some 5 := by kernel_rfl
theorem stInst : Tryz.f5.isInstance Tryz.pinned.checked.prog Rows.subTurnedRow.origin Rows.subTurnedRow.targs := of_decide_eq_true (by kernel_rfl)
theorem stWrap : Tryz.f5.isWrapper Tryz.pinned.checked.prog Rows.subTurnedRow.wrapper Rows.subTurnedRow.mainSum := by unfold Func.isWrapper; rw [if_neg (of_decide_eq_false (by kernel_rfl))]; exact ⟨rfl, rfl⟩
end Go.Proofs.YtphienllhdoenaaGreat
