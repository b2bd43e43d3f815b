/- What a look through the form of the program tells of the law WeatherPlays: its name, its row and its form fit. -/
import Derived.Test.YtcaehpgdcjonfaaRows
import Derived.JoinedOf
namespace Go.Proofs.Ytcaehpgdcjonfaa
theorem wpNamed : Try.pinned.checked.prog.funcNamed Rows.weatherPlaysRow.func = some 3 := by kernel_rfl
theorem wpFacts : joinedFacts Try.pinned.checked.prog 3 Try.f3 Rows.weatherPlaysSpec Rows.weatherPlaysRow = true := by kernel_rfl
theorem wpInst : Try.f3.isInstance Try.pinned.checked.prog Rows.weatherPlaysRow.origin Rows.weatherPlaysRow.targs := of_decide_eq_true (by kernel_rfl)
theorem wpWrap : Try.f3.isWrapper Try.pinned.checked.prog Rows.weatherPlaysRow.wrapper Rows.weatherPlaysRow.mainSum := by unfold Func.isWrapper; rw [if_neg (of_decide_eq_false (by kernel_rfl))]; exact ⟨rfl, rfl⟩
end Go.Proofs.Ytcaehpgdcjonfaa
