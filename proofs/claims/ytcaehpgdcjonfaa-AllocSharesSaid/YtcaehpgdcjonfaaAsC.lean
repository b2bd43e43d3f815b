/- What a look through the form of the program tells of the law AllocShares: its name, its row and its form fit. -/
import Derived.Test.YtcaehpgdcjonfaaRows
import Derived.JoinedOf
namespace Go.Proofs.Ytcaehpgdcjonfaa
theorem asNamed : Try.pinned.checked.prog.funcNamed Rows.allocSharesRow.func = some 12 := by kernel_rfl
theorem asInst : Try.f12.isInstance Try.pinned.checked.prog Rows.allocSharesRow.origin Rows.allocSharesRow.targs := of_decide_eq_true (by kernel_rfl)
theorem asWrap : Try.f12.isWrapper Try.pinned.checked.prog Rows.allocSharesRow.wrapper Rows.allocSharesRow.mainSum := by unfold Func.isWrapper; rw [if_neg (of_decide_eq_false (by kernel_rfl))]; exact ⟨rfl, rfl⟩
end Go.Proofs.Ytcaehpgdcjonfaa
