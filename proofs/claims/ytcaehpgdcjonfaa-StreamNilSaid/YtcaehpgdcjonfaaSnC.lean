/- What a look through the form of the program tells of the law StreamNil: its name, its row and its form fit. -/
import Derived.Test.YtcaehpgdcjonfaaRows
import Derived.JoinedOf
namespace Go.Proofs.Ytcaehpgdcjonfaa
theorem snNamed : Try.pinned.checked.prog.funcNamed Rows.streamNilRow.func = some 20 := by kernel_rfl
theorem snInst : Try.f20.isInstance Try.pinned.checked.prog Rows.streamNilRow.origin Rows.streamNilRow.targs := of_decide_eq_true (by kernel_rfl)
theorem snWrap : Try.f20.isWrapper Try.pinned.checked.prog Rows.streamNilRow.wrapper Rows.streamNilRow.mainSum := by unfold Func.isWrapper; rw [if_neg (of_decide_eq_false (by kernel_rfl))]; exact ⟨rfl, rfl⟩
end Go.Proofs.Ytcaehpgdcjonfaa
