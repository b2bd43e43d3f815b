/- What a look through the form of the program tells of the law PolyJoins: its name, its row and its form fit. -/
import Derived.Test.YtphienllhdoenaaRows
import Derived.JoinedOf
namespace Go.Proofs.Ytphienllhdoenaa
theorem pjNamed : Try.pinned.checked.prog.funcNamed Rows.polyJoinsRow.func = some 4 := by kernel_rfl
theorem pjInst : Try.f4.isInstance Try.pinned.checked.prog Rows.polyJoinsRow.origin Rows.polyJoinsRow.targs := of_decide_eq_true (by kernel_rfl)
theorem pjWrap : Try.f4.isWrapper Try.pinned.checked.prog Rows.polyJoinsRow.wrapper Rows.polyJoinsRow.mainSum := by unfold Func.isWrapper; rw [if_neg (of_decide_eq_false (by kernel_rfl))]; exact ⟨rfl, rfl⟩
end Go.Proofs.Ytphienllhdoenaa
