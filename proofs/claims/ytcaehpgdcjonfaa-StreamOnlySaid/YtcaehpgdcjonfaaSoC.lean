/- What a look through the form of the program tells of the law StreamOnly: its name, its row and its form fit. -/
import Derived.Test.YtcaehpgdcjonfaaRows
import Derived.JoinedOf
namespace Go.Proofs.Ytcaehpgdcjonfaa
theorem soNamed : Try.pinned.checked.prog.funcNamed Rows.streamOnlyRow.func = some 19 := by kernel_rfl
theorem soInst : Try.f19.isInstance Try.pinned.checked.prog Rows.streamOnlyRow.origin Rows.streamOnlyRow.targs := of_decide_eq_true (by kernel_rfl)
theorem soWrap : Try.f19.isWrapper Try.pinned.checked.prog Rows.streamOnlyRow.wrapper Rows.streamOnlyRow.mainSum := by unfold Func.isWrapper; rw [if_neg (of_decide_eq_false (by kernel_rfl))]; exact ⟨rfl, rfl⟩
end Go.Proofs.Ytcaehpgdcjonfaa
