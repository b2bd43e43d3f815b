/- What a look through the form of the program tells of the law FormTells: its name, its row and its form fit. -/
import Derived.Test.YtcaehpgdcjonfaaRows
import Derived.JoinedOf
namespace Go.Proofs.Ytcaehpgdcjonfaa
theorem ftNamed : Try.pinned.checked.prog.funcNamed Rows.formTellsRow.func = some 6 := by kernel_rfl
theorem ftFacts : joinedFacts Try.pinned.checked.prog 6 Try.f6 Rows.formTellsSpec Rows.formTellsRow = true := by kernel_rfl
theorem ftInst : Try.f6.isInstance Try.pinned.checked.prog Rows.formTellsRow.origin Rows.formTellsRow.targs := of_decide_eq_true (by kernel_rfl)
theorem ftWrap : Try.f6.isWrapper Try.pinned.checked.prog Rows.formTellsRow.wrapper Rows.formTellsRow.mainSum := by unfold Func.isWrapper; rw [if_neg (of_decide_eq_false (by kernel_rfl))]; exact ⟨rfl, rfl⟩
end Go.Proofs.Ytcaehpgdcjonfaa
