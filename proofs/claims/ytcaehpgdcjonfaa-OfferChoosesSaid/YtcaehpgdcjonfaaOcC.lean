/- What a look through the form of the program tells of the law OfferChooses: its name, its row and its form fit. -/
import Derived.Test.YtcaehpgdcjonfaaRows
import Derived.JoinedOf
namespace Go.Proofs.Ytcaehpgdcjonfaa
theorem ocNamed : Try.pinned.checked.prog.funcNamed Rows.offerChoosesRow.func = some 16 := by kernel_rfl
theorem ocInst : Try.f16.isInstance Try.pinned.checked.prog Rows.offerChoosesRow.origin Rows.offerChoosesRow.targs := of_decide_eq_true (by kernel_rfl)
theorem ocWrap : Try.f16.isWrapper Try.pinned.checked.prog Rows.offerChoosesRow.wrapper Rows.offerChoosesRow.mainSum := by unfold Func.isWrapper; rw [if_neg (of_decide_eq_false (by kernel_rfl))]; exact ⟨rfl, rfl⟩
end Go.Proofs.Ytcaehpgdcjonfaa
