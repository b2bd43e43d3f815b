/- What a look through the form of the program tells of the law SinkNil: its name, its row and its form fit. -/
import Derived.Test.YtgbfdfkfkfldoaaGreatRows
import Derived.JoinedOf
namespace Go.Proofs.YtgbfdfkfkfldoaaGreat
theorem knNamed : Tryz.pinned.checked.prog.funcNamed Rows.sinkNilRow.func = some 3 := by kernel_rfl
theorem knInst : Tryz.f3.isInstance Tryz.pinned.checked.prog Rows.sinkNilRow.origin Rows.sinkNilRow.targs := of_decide_eq_true (by kernel_rfl)
theorem knWrap : Tryz.f3.isWrapper Tryz.pinned.checked.prog Rows.sinkNilRow.wrapper Rows.sinkNilRow.mainSum := by unfold Func.isWrapper; rw [if_neg (of_decide_eq_false (by kernel_rfl))]; exact ⟨rfl, rfl⟩
end Go.Proofs.YtgbfdfkfkfldoaaGreat
