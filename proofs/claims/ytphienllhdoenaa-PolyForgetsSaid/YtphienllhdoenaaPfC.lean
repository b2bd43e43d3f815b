/- What a look through the form of the program tells of the law PolyForgets: its name, its row and its form fit. -/
import Derived.Test.YtphienllhdoenaaRows
import Derived.JoinedOf
namespace Go.Proofs.Ytphienllhdoenaa
theorem pfNamed : Try.pinned.checked.prog.funcNamed Rows.polyForgetsRow.func = some 6 := by kernel_rfl
theorem pfInst : Try.f6.isInstance Try.pinned.checked.prog Rows.polyForgetsRow.origin Rows.polyForgetsRow.targs := of_decide_eq_true (by kernel_rfl)
theorem pfWrap : Try.f6.isWrapper Try.pinned.checked.prog Rows.polyForgetsRow.wrapper Rows.polyForgetsRow.mainSum := by unfold Func.isWrapper; rw [if_neg (of_decide_eq_false (by kernel_rfl))]; exact ⟨rfl, rfl⟩
end Go.Proofs.Ytphienllhdoenaa
