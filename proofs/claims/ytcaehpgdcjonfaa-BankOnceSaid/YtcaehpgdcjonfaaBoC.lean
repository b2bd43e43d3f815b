/- What a look through the form of the program tells of the law BankOnce: its name, its row and its form fit. -/
import Derived.Test.YtcaehpgdcjonfaaRows
import Derived.JoinedOf
namespace Go.Proofs.Ytcaehpgdcjonfaa
theorem boNamed : Try.pinned.checked.prog.funcNamed Rows.bankOnceRow.func = some 14 := by kernel_rfl
theorem boInst : Try.f14.isInstance Try.pinned.checked.prog Rows.bankOnceRow.origin Rows.bankOnceRow.targs := of_decide_eq_true (by kernel_rfl)
theorem boWrap : Try.f14.isWrapper Try.pinned.checked.prog Rows.bankOnceRow.wrapper Rows.bankOnceRow.mainSum := by unfold Func.isWrapper; rw [if_neg (of_decide_eq_false (by kernel_rfl))]; exact ⟨rfl, rfl⟩
end Go.Proofs.Ytcaehpgdcjonfaa
