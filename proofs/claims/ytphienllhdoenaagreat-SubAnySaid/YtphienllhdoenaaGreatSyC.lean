/- What a look through the form of the program tells of the law SubAny: its name, its row and its form fit. -/
import Derived.Test.YtphienllhdoenaaGreatRows
import Derived.JoinedOf
namespace Go.Proofs.YtphienllhdoenaaGreat
theorem syNamed : Tryz.pinned.checked.prog.funcNamed Rows.subAnyRow.func = some 10 := by kernel_rfl
theorem syInst : Tryz.f10.isInstance Tryz.pinned.checked.prog Rows.subAnyRow.origin Rows.subAnyRow.targs := of_decide_eq_true (by kernel_rfl)
theorem syWrap : Tryz.f10.isWrapper Tryz.pinned.checked.prog Rows.subAnyRow.wrapper Rows.subAnyRow.mainSum := by unfold Func.isWrapper; rw [if_neg (of_decide_eq_false (by kernel_rfl))]; exact ⟨rfl, rfl⟩
end Go.Proofs.YtphienllhdoenaaGreat
