/- What a look through the form of the program tells of the law OfferBest: its name, its row and its form fit. -/
import Derived.Test.YtcaehpgdcjonfaaRows
import Derived.JoinedOf
namespace Go.Proofs.Ytcaehpgdcjonfaa
theorem obNamed : Try.pinned.checked.prog.funcNamed Rows.offerBestRow.func = some 18 := by kernel_rfl
theorem obInst : Try.f18.isInstance Try.pinned.checked.prog Rows.offerBestRow.origin Rows.offerBestRow.targs := of_decide_eq_true (by kernel_rfl)
theorem obWrap : Try.f18.isWrapper Try.pinned.checked.prog Rows.offerBestRow.wrapper Rows.offerBestRow.mainSum := by unfold Func.isWrapper; rw [if_neg (of_decide_eq_false (by kernel_rfl))]; exact ⟨rfl, rfl⟩
end Go.Proofs.Ytcaehpgdcjonfaa
