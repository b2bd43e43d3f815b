/- What a look through the form of the program tells of the law SubPlays: its name, its row and its form fit. -/
import Derived.Test.YtdfoifpmghandadGreatRows
import Derived.JoinedOf
namespace Go.Proofs.YtdfoifpmghandadGreat
theorem slNamed : Tryz.pinned.checked.prog.funcNamed Rows.subPlaysRow.func = some 3 := by kernel_rfl
theorem slInst : Tryz.f3.isInstance Tryz.pinned.checked.prog Rows.subPlaysRow.origin Rows.subPlaysRow.targs := of_decide_eq_true (by kernel_rfl)
theorem slWrap : Tryz.f3.isWrapper Tryz.pinned.checked.prog Rows.subPlaysRow.wrapper Rows.subPlaysRow.mainSum := by unfold Func.isWrapper; rw [if_neg (of_decide_eq_false (by kernel_rfl))]; exact ⟨rfl, rfl⟩
end Go.Proofs.YtdfoifpmghandadGreat
