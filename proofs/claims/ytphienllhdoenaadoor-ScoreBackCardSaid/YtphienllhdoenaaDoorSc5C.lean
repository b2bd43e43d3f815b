/- What a look through the form of the program tells of the law ScoreBack: its name, its row and its form fit. -/
import Derived.Test.YtphienllhdoenaaDoorRows
import Derived.JoinedOf
namespace Go.Proofs.YtphienllhdoenaaDoor
theorem sc5Named : Tryd.pinned.checked.prog.funcNamed Rows.scoreBackRow.func = some 5 := by kernel_rfl
theorem sc5Inst : Tryd.f5.isInstance Tryd.pinned.checked.prog Rows.scoreBackRow.origin Rows.scoreBackRow.targs := of_decide_eq_true (by kernel_rfl)
theorem sc5Wrap : Tryd.f5.isWrapper Tryd.pinned.checked.prog Rows.scoreBackRow.wrapper Rows.scoreBackRow.mainSum := by unfold Func.isWrapper; rw [if_neg (of_decide_eq_false (by kernel_rfl))]; exact ⟨rfl, rfl⟩
end Go.Proofs.YtphienllhdoenaaDoor
