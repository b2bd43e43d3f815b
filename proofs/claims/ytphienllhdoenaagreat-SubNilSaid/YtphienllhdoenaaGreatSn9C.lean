/- What a look through the form of the program tells of the law SubNil: its name, its row and its form fit. -/
import Derived.Test.YtphienllhdoenaaGreatRows
import Derived.JoinedOf
namespace Go.Proofs.YtphienllhdoenaaGreat
theorem sn9Named : Tryz.pinned.checked.prog.funcNamed Rows.subNilRow.func = some 9 := by kernel_rfl
theorem sn9Inst : Tryz.f9.isInstance Tryz.pinned.checked.prog Rows.subNilRow.origin Rows.subNilRow.targs := of_decide_eq_true (by kernel_rfl)
theorem sn9Wrap : Tryz.f9.isWrapper Tryz.pinned.checked.prog Rows.subNilRow.wrapper Rows.subNilRow.mainSum := by unfold Func.isWrapper; rw [if_neg (of_decide_eq_false (by kernel_rfl))]; exact ⟨rfl, rfl⟩
end Go.Proofs.YtphienllhdoenaaGreat
