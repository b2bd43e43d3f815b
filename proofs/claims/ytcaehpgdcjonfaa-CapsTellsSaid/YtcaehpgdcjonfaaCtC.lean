/- What a look through the form of the program tells of the law CapsTells: its name, its row and its form fit. -/
import Derived.Test.YtcaehpgdcjonfaaRows
import Derived.JoinedOf
namespace Go.Proofs.Ytcaehpgdcjonfaa
theorem ctNamed : Try.pinned.checked.prog.funcNamed Rows.capsTellsRow.func = some 11 := by kernel_rfl
theorem ctInst : Try.f11.isInstance Try.pinned.checked.prog Rows.capsTellsRow.origin Rows.capsTellsRow.targs := of_decide_eq_true (by kernel_rfl)
theorem ctWrap : Try.f11.isWrapper Try.pinned.checked.prog Rows.capsTellsRow.wrapper Rows.capsTellsRow.mainSum := by unfold Func.isWrapper; rw [if_neg (of_decide_eq_false (by kernel_rfl))]; exact ⟨rfl, rfl⟩
end Go.Proofs.Ytcaehpgdcjonfaa
