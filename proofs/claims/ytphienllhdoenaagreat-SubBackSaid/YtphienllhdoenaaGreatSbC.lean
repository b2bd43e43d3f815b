/- What a look through the form of the program tells of the law SubBack: its name, its row and its form fit. -/
import Derived.Test.YtphienllhdoenaaGreatRows
import Derived.JoinedOf
namespace Go.Proofs.YtphienllhdoenaaGreat
theorem sbNamed : Tryz.pinned.checked.prog.funcNamed Rows.subBackRow.func = some 7 := by kernel_rfl
theorem sbInst : Tryz.f7.isInstance Tryz.pinned.checked.prog Rows.subBackRow.origin Rows.subBackRow.targs := of_decide_eq_true (by kernel_rfl)
theorem sbWrap : Tryz.f7.isWrapper Tryz.pinned.checked.prog Rows.subBackRow.wrapper Rows.subBackRow.mainSum := by unfold Func.isWrapper; rw [if_neg (of_decide_eq_false (by kernel_rfl))]; exact ⟨rfl, rfl⟩
end Go.Proofs.YtphienllhdoenaaGreat
