/- What a look through the form of the program tells of the law LappedLaps: its name, its row and its form fit. -/
import Derived.Test.YtphienllhdoenaaRows
import Derived.JoinedOf
namespace Go.Proofs.Ytphienllhdoenaa
theorem lmNamed : Try.pinned.checked.prog.funcNamed Rows.lappedLapsRow.func = some 8 := by kernel_rfl
theorem lmInst : Try.f8.isInstance Try.pinned.checked.prog Rows.lappedLapsRow.origin Rows.lappedLapsRow.targs := of_decide_eq_true (by kernel_rfl)
theorem lmWrap : Try.f8.isWrapper Try.pinned.checked.prog Rows.lappedLapsRow.wrapper Rows.lappedLapsRow.mainSum := by unfold Func.isWrapper; rw [if_neg (of_decide_eq_false (by kernel_rfl))]; exact ⟨rfl, rfl⟩
end Go.Proofs.Ytphienllhdoenaa
