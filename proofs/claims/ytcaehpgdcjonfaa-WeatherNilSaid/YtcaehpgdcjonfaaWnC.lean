/- What a look through the program's form tells of the law WeatherNil: its name, its row and its form fit. -/
import Derived.Test.YtcaehpgdcjonfaaRows
import Derived.JoinedOf
namespace Go.Proofs.Ytcaehpgdcjonfaa
theorem wnNamed : Try.pinned.checked.prog.funcNamed Rows.weatherNilRow.func = some 5 := by kernel_rfl
theorem wnFacts : joinedFacts Try.pinned.checked.prog 5 Try.f5 Rows.weatherNilSpec Rows.weatherNilRow = true := by kernel_rfl
theorem wnInst : Try.f5.isInstance Try.pinned.checked.prog Rows.weatherNilRow.origin Rows.weatherNilRow.targs := of_decide_eq_true (by kernel_rfl)
theorem wnWrap : Try.f5.isWrapper Try.pinned.checked.prog Rows.weatherNilRow.wrapper Rows.weatherNilRow.mainSum := by unfold Func.isWrapper; rw [if_neg (of_decide_eq_false (by kernel_rfl))]; exact ⟨rfl, rfl⟩
end Go.Proofs.Ytcaehpgdcjonfaa
