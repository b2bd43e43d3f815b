/- What a look through the form of the program tells of the law OfferMeets: its name, its row and its form fit. -/
import Derived.Test.YtcaehpgdcjonfaaRows
import Derived.JoinedOf
namespace Go.Proofs.Ytcaehpgdcjonfaa
theorem omNamed : Try.pinned.checked.prog.funcNamed Rows.offerMeetsRow.func = some 17 := by kernel_rfl
theorem omInst : Try.f17.isInstance Try.pinned.checked.prog Rows.offerMeetsRow.origin Rows.offerMeetsRow.targs := of_decide_eq_true (by kernel_rfl)
theorem omWrap : Try.f17.isWrapper Try.pinned.checked.prog Rows.offerMeetsRow.wrapper Rows.offerMeetsRow.mainSum := by unfold Func.isWrapper; rw [if_neg (of_decide_eq_false (by kernel_rfl))]; exact ⟨rfl, rfl⟩
end Go.Proofs.Ytcaehpgdcjonfaa
