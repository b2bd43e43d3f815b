/- What a look through the form of the program tells of the law BankNil: its name, its row and its form fit. -/
import Derived.Test.YtcaehpgdcjonfaaRows
import Derived.JoinedOf
namespace Go.Proofs.Ytcaehpgdcjonfaa
theorem bnNamed : Try.pinned.checked.prog.funcNamed Rows.bankNilRow.func = some 15 := by kernel_rfl
theorem bnInst : Try.f15.isInstance Try.pinned.checked.prog Rows.bankNilRow.origin Rows.bankNilRow.targs := of_decide_eq_true (by kernel_rfl)
theorem bnWrap : Try.f15.isWrapper Try.pinned.checked.prog Rows.bankNilRow.wrapper Rows.bankNilRow.mainSum := by unfold Func.isWrapper; rw [if_neg (of_decide_eq_false (by kernel_rfl))]; exact ⟨rfl, rfl⟩
end Go.Proofs.Ytcaehpgdcjonfaa
