/- What a look through the form of the program tells of the law PolyQuiet: its name, its row and its form fit. -/
import Derived.Test.YtphienllhdoenaaRows
import Derived.JoinedOf
namespace Go.Proofs.Ytphienllhdoenaa
theorem pqNamed : Try.pinned.checked.prog.funcNamed Rows.polyQuietRow.func = some 5 := by kernel_rfl
theorem pqInst : Try.f5.isInstance Try.pinned.checked.prog Rows.polyQuietRow.origin Rows.polyQuietRow.targs := of_decide_eq_true (by kernel_rfl)
theorem pqWrap : Try.f5.isWrapper Try.pinned.checked.prog Rows.polyQuietRow.wrapper Rows.polyQuietRow.mainSum := by unfold Func.isWrapper; rw [if_neg (of_decide_eq_false (by kernel_rfl))]; exact ⟨rfl, rfl⟩
end Go.Proofs.Ytphienllhdoenaa
