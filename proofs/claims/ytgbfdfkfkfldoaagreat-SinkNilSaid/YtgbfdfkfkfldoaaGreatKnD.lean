/- What a look through the form of the program tells of the law SinkNil: its name, its row and its form fit. -/
import Derived.Test.YtgbfdfkfkfldoaaGreatRows
import Derived.JoinedOf
namespace Go.Proofs.YtgbfdfkfkfldoaaGreat
set_option maxHeartbeats 100000000 in
theorem knFacts : joinedFacts Tryz.pinned.checked.prog 3 Tryz.f3 Rows.sinkNilSpec Rows.sinkNilRow = true := by
  unfold joinedFacts
  simp only [Bool.and_eq_true]
  repeat' apply And.intro
  all_goals as_aux_lemma => kernel_rfl
end Go.Proofs.YtgbfdfkfkfldoaaGreat
