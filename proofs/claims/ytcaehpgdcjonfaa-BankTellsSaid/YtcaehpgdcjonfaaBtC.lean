/- What a look through the form of the program tells of the law BankTells: its name, its row and its form fit. -/
import Derived.Test.YtcaehpgdcjonfaaRows
import Derived.JoinedOf
namespace Go.Proofs.Ytcaehpgdcjonfaa
theorem btNamed : Try.pinned.checked.prog.funcNamed Rows.bankTellsRow.func = some 13 := by kernel_rfl
theorem btInst : Try.f13.isInstance Try.pinned.checked.prog Rows.bankTellsRow.origin Rows.bankTellsRow.targs := of_decide_eq_true (by kernel_rfl)
theorem btWrap : Try.f13.isWrapper Try.pinned.checked.prog Rows.bankTellsRow.wrapper Rows.bankTellsRow.mainSum := by unfold Func.isWrapper; rw [if_neg (of_decide_eq_false (by kernel_rfl))]; exact ⟨rfl, rfl⟩
end Go.Proofs.Ytcaehpgdcjonfaa
