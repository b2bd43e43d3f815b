/- What a look through the form of the program tells of the law LapAny: its name, its row and its form fit. -/
import Derived.Test.YtllmmohdmmneoaaGreatRows
import Derived.JoinedOf
namespace Go.Proofs.YtllmmohdmmneoaaGreat
theorem maNamed : Tryz.pinned.checked.prog.funcNamed Rows.lapAnyRow.func = some 3 := by kernel_rfl
theorem maInst : Tryz.f3.isInstance Tryz.pinned.checked.prog Rows.lapAnyRow.origin Rows.lapAnyRow.targs := of_decide_eq_true (by kernel_rfl)
theorem maWrap : Tryz.f3.isWrapper Tryz.pinned.checked.prog Rows.lapAnyRow.wrapper Rows.lapAnyRow.mainSum := by unfold Func.isWrapper; rw [if_neg (of_decide_eq_false (by kernel_rfl))]; exact ⟨rfl, rfl⟩
end Go.Proofs.YtllmmohdmmneoaaGreat
