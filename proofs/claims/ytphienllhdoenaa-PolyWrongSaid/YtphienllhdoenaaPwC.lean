/- What a look through the form of the program tells of the law PolyWrong: its name, its row and its form fit. -/
import Derived.Test.YtphienllhdoenaaRows
import Derived.JoinedOf
namespace Go.Proofs.Ytphienllhdoenaa
theorem pwNamed : Try.pinned.checked.prog.funcNamed Rows.polyWrongRow.func = some 7 := by kernel_rfl
theorem pwInst : Try.f7.isInstance Try.pinned.checked.prog Rows.polyWrongRow.origin Rows.polyWrongRow.targs := of_decide_eq_true (by kernel_rfl)
theorem pwWrap : Try.f7.isWrapper Try.pinned.checked.prog Rows.polyWrongRow.wrapper Rows.polyWrongRow.mainSum := by unfold Func.isWrapper; rw [if_neg (of_decide_eq_false (by kernel_rfl))]; exact ⟨rfl, rfl⟩
end Go.Proofs.Ytphienllhdoenaa
