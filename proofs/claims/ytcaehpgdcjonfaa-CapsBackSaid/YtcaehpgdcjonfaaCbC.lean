/- What a look through the form of the program tells of the law CapsBack: its name, its row and its form fit. -/
import Derived.Test.YtcaehpgdcjonfaaRows
import Derived.JoinedOf
namespace Go.Proofs.Ytcaehpgdcjonfaa
theorem cbNamed : Try.pinned.checked.prog.funcNamed Rows.capsBackRow.func = some 9 := by kernel_rfl
theorem cbInst : Try.f9.isInstance Try.pinned.checked.prog Rows.capsBackRow.origin Rows.capsBackRow.targs := of_decide_eq_true (by kernel_rfl)
theorem cbWrap : Try.f9.isWrapper Try.pinned.checked.prog Rows.capsBackRow.wrapper Rows.capsBackRow.mainSum := by unfold Func.isWrapper; rw [if_neg (of_decide_eq_false (by kernel_rfl))]; exact ⟨rfl, rfl⟩
end Go.Proofs.Ytcaehpgdcjonfaa
