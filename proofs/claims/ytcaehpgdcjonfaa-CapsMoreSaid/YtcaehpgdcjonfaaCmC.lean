/- What a look through the form of the program tells of the law CapsMore: its name, its row and its form fit. -/
import Derived.Test.YtcaehpgdcjonfaaRows
import Derived.JoinedOf
namespace Go.Proofs.Ytcaehpgdcjonfaa
theorem cmNamed : Try.pinned.checked.prog.funcNamed Rows.capsMoreRow.func = some 10 := by kernel_rfl
theorem cmInst : Try.f10.isInstance Try.pinned.checked.prog Rows.capsMoreRow.origin Rows.capsMoreRow.targs := of_decide_eq_true (by kernel_rfl)
theorem cmWrap : Try.f10.isWrapper Try.pinned.checked.prog Rows.capsMoreRow.wrapper Rows.capsMoreRow.mainSum := by unfold Func.isWrapper; rw [if_neg (of_decide_eq_false (by kernel_rfl))]; exact ⟨rfl, rfl⟩
end Go.Proofs.Ytcaehpgdcjonfaa
