/- What a look through the form of the program tells of the law LappedUnlaps: its name, its row and its form fit. -/
import Derived.Test.YtphienllhdoenaaRows
import Derived.JoinedOf
namespace Go.Proofs.Ytphienllhdoenaa
theorem lnNamed : Try.pinned.checked.prog.funcNamed Rows.lappedUnlapsRow.func = some 10 := by kernel_rfl
theorem lnInst : Try.f10.isInstance Try.pinned.checked.prog Rows.lappedUnlapsRow.origin Rows.lappedUnlapsRow.targs := of_decide_eq_true (by kernel_rfl)
theorem lnWrap : Try.f10.isWrapper Try.pinned.checked.prog Rows.lappedUnlapsRow.wrapper Rows.lappedUnlapsRow.mainSum := by unfold Func.isWrapper; rw [if_neg (of_decide_eq_false (by kernel_rfl))]; exact ⟨rfl, rfl⟩
end Go.Proofs.Ytphienllhdoenaa
