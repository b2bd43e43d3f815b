/- What a look through the form of the program tells of the law PolySplits: its name, its row and its form fit. -/
import Derived.Test.YtphienllhdoenaaRows
import Derived.JoinedOf
namespace Go.Proofs.Ytphienllhdoenaa
theorem poNamed : Try.pinned.checked.prog.funcNamed Rows.polySplitsRow.func = some 3 := by kernel_rfl
theorem poInst : Try.f3.isInstance Try.pinned.checked.prog Rows.polySplitsRow.origin Rows.polySplitsRow.targs := of_decide_eq_true (by kernel_rfl)
theorem poWrap : Try.f3.isWrapper Try.pinned.checked.prog Rows.polySplitsRow.wrapper Rows.polySplitsRow.mainSum := by unfold Func.isWrapper; rw [if_neg (of_decide_eq_false (by kernel_rfl))]; exact ⟨rfl, rfl⟩
end Go.Proofs.Ytphienllhdoenaa
