/- What a look through the form of the program tells of the law SubPacks: its name, its row and its form fit. -/
import Derived.Test.YtdfoifpmghandaaGreatRows
import Derived.JoinedOf
namespace Go.Proofs.YtdfoifpmghandaaGreat
theorem spNamed : Tryz.pinned.checked.prog.funcNamed Rows.subPacksRow.func = some 3 := by kernel_rfl
theorem spInst : Tryz.f3.isInstance Tryz.pinned.checked.prog Rows.subPacksRow.origin Rows.subPacksRow.targs := of_decide_eq_true (by kernel_rfl)
theorem spWrap : Tryz.f3.isWrapper Tryz.pinned.checked.prog Rows.subPacksRow.wrapper Rows.subPacksRow.mainSum := by unfold Func.isWrapper; rw [if_neg (of_decide_eq_false (by kernel_rfl))]; exact ⟨rfl, rfl⟩
end Go.Proofs.YtdfoifpmghandaaGreat
