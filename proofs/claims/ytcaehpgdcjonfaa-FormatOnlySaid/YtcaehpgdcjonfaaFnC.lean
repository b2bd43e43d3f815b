/- What a look through the form of the program tells of the law FormatOnly: its name, its row and its form fit. -/
import Derived.Test.YtcaehpgdcjonfaaRows
import Derived.JoinedOf
namespace Go.Proofs.Ytcaehpgdcjonfaa
theorem fnNamed : Try.pinned.checked.prog.funcNamed Rows.formatOnlyRow.func = some 8 := by kernel_rfl
theorem fnFacts : joinedFacts Try.pinned.checked.prog 8 Try.f8 Rows.formatOnlySpec Rows.formatOnlyRow = true := by kernel_rfl
theorem fnInst : Try.f8.isInstance Try.pinned.checked.prog Rows.formatOnlyRow.origin Rows.formatOnlyRow.targs := of_decide_eq_true (by kernel_rfl)
theorem fnWrap : Try.f8.isWrapper Try.pinned.checked.prog Rows.formatOnlyRow.wrapper Rows.formatOnlyRow.mainSum := by unfold Func.isWrapper; rw [if_neg (of_decide_eq_false (by kernel_rfl))]; exact ⟨rfl, rfl⟩
end Go.Proofs.Ytcaehpgdcjonfaa
