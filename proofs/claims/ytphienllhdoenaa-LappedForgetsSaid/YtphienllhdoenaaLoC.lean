/- What a look through the form of the program tells of the law LappedForgets: its name, its row and its form fit. -/
import Derived.Test.YtphienllhdoenaaRows
import Derived.JoinedOf
namespace Go.Proofs.Ytphienllhdoenaa
theorem loNamed : Try.pinned.checked.prog.funcNamed Rows.lappedForgetsRow.func = some 11 := by kernel_rfl
theorem loInst : Try.f11.isInstance Try.pinned.checked.prog Rows.lappedForgetsRow.origin Rows.lappedForgetsRow.targs := of_decide_eq_true (by kernel_rfl)
theorem loWrap : Try.f11.isWrapper Try.pinned.checked.prog Rows.lappedForgetsRow.wrapper Rows.lappedForgetsRow.mainSum := by unfold Func.isWrapper; rw [if_neg (of_decide_eq_false (by kernel_rfl))]; exact ⟨rfl, rfl⟩
end Go.Proofs.Ytphienllhdoenaa
