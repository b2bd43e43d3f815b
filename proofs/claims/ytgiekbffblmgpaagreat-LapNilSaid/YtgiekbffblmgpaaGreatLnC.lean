/- What a look through the form of the program tells of the law LapNil: its name, its row and its form fit. -/
import Derived.Test.YtgiekbffblmgpaaGreatRows
import Derived.JoinedOf
namespace Go.Proofs.YtgiekbffblmgpaaGreat
theorem lnNamed : Tryz.pinned.checked.prog.funcNamed Rows.lapNilRow.func = some 3 := by kernel_rfl
theorem lnInst : Tryz.f3.isInstance Tryz.pinned.checked.prog Rows.lapNilRow.origin Rows.lapNilRow.targs := of_decide_eq_true (by kernel_rfl)
theorem lnWrap : Tryz.f3.isWrapper Tryz.pinned.checked.prog Rows.lapNilRow.wrapper Rows.lapNilRow.mainSum := by unfold Func.isWrapper; rw [if_neg (of_decide_eq_false (by kernel_rfl))]; exact ⟨rfl, rfl⟩
end Go.Proofs.YtgiekbffblmgpaaGreat
