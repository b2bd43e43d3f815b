/- What a look through the form of the program tells of the law WeatherEnds: its name, its row and its form fit. -/
import Derived.Test.YtcaehpgdcjonfaaRows
import Derived.JoinedOf
namespace Go.Proofs.Ytcaehpgdcjonfaa
theorem weNamed : Try.pinned.checked.prog.funcNamed Rows.weatherEndsRow.func = some 4 := by kernel_rfl
theorem weFacts : joinedFacts Try.pinned.checked.prog 4 Try.f4 Rows.weatherEndsSpec Rows.weatherEndsRow = true := by kernel_rfl
theorem weInst : Try.f4.isInstance Try.pinned.checked.prog Rows.weatherEndsRow.origin Rows.weatherEndsRow.targs := of_decide_eq_true (by kernel_rfl)
theorem weWrap : Try.f4.isWrapper Try.pinned.checked.prog Rows.weatherEndsRow.wrapper Rows.weatherEndsRow.mainSum := by unfold Func.isWrapper; rw [if_neg (of_decide_eq_false (by kernel_rfl))]; exact ⟨rfl, rfl⟩
end Go.Proofs.Ytcaehpgdcjonfaa
