/- What a look through the form of the program tells of the law FormEnds: its name, its row and its form fit. -/
import Derived.Test.YtcaehpgdcjonfaaRows
import Derived.JoinedOf
namespace Go.Proofs.Ytcaehpgdcjonfaa
theorem feNamed : Try.pinned.checked.prog.funcNamed Rows.formEndsRow.func = some 7 := by kernel_rfl
theorem feFacts : joinedFacts Try.pinned.checked.prog 7 Try.f7 Rows.formEndsSpec Rows.formEndsRow = true := by kernel_rfl
theorem feInst : Try.f7.isInstance Try.pinned.checked.prog Rows.formEndsRow.origin Rows.formEndsRow.targs := of_decide_eq_true (by kernel_rfl)
theorem feWrap : Try.f7.isWrapper Try.pinned.checked.prog Rows.formEndsRow.wrapper Rows.formEndsRow.mainSum := by unfold Func.isWrapper; rw [if_neg (of_decide_eq_false (by kernel_rfl))]; exact ⟨rfl, rfl⟩
end Go.Proofs.Ytcaehpgdcjonfaa
