/- What a look through the form of the program tells of the law ScoreParses: its name, its row and its form fit. -/
import Derived.Test.YtphienllhdoenaaDoorRows
import Derived.JoinedOf
namespace Go.Proofs.YtphienllhdoenaaDoor
theorem sc3Named : Tryd.pinned.checked.prog.funcNamed Rows.scoreParsesRow.func = some 3 := by kernel_rfl
theorem sc3Inst : Tryd.f3.isInstance Tryd.pinned.checked.prog Rows.scoreParsesRow.origin Rows.scoreParsesRow.targs := of_decide_eq_true (by kernel_rfl)
theorem sc3Wrap : Tryd.f3.isWrapper Tryd.pinned.checked.prog Rows.scoreParsesRow.wrapper Rows.scoreParsesRow.mainSum := by unfold Func.isWrapper; rw [if_neg (of_decide_eq_false (by kernel_rfl))]; exact ⟨rfl, rfl⟩
end Go.Proofs.YtphienllhdoenaaDoor
