/- What a look through the form of the program tells of the law HideNil: its name, its row and its form fit. -/
import Derived.Test.YtbjcfghbmhcajaaGreatRows
import Derived.JoinedOf
namespace Go.Proofs.YtbjcfghbmhcajaaGreat
theorem hnNamed : Tryz.pinned.checked.prog.funcNamed Rows.hideNilRow.func = some 3 := by kernel_rfl
theorem hnInst : Tryz.f3.isInstance Tryz.pinned.checked.prog Rows.hideNilRow.origin Rows.hideNilRow.targs := of_decide_eq_true (by kernel_rfl)
theorem hnWrap : Tryz.f3.isWrapper Tryz.pinned.checked.prog Rows.hideNilRow.wrapper Rows.hideNilRow.mainSum := by unfold Func.isWrapper; rw [if_neg (of_decide_eq_false (by kernel_rfl))]; exact ⟨rfl, rfl⟩
end Go.Proofs.YtbjcfghbmhcajaaGreat
