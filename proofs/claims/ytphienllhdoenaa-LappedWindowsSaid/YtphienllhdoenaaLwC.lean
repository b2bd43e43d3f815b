/- What a look through the form of the program tells of the law LappedWindows: its name, its row and its form fit. -/
import Derived.Test.YtphienllhdoenaaRows
import Derived.JoinedOf
namespace Go.Proofs.Ytphienllhdoenaa
theorem lwNamed : Try.pinned.checked.prog.funcNamed Rows.lappedWindowsRow.func = some 9 := by kernel_rfl
theorem lwInst : Try.f9.isInstance Try.pinned.checked.prog Rows.lappedWindowsRow.origin Rows.lappedWindowsRow.targs := of_decide_eq_true (by kernel_rfl)
theorem lwWrap : Try.f9.isWrapper Try.pinned.checked.prog Rows.lappedWindowsRow.wrapper Rows.lappedWindowsRow.mainSum := by unfold Func.isWrapper; rw [if_neg (of_decide_eq_false (by kernel_rfl))]; exact ⟨rfl, rfl⟩
end Go.Proofs.Ytphienllhdoenaa
