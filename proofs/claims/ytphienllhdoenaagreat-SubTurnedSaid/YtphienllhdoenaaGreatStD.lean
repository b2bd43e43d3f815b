/- What a look through the form of the program tells of the law SubTurned: its name, its row and its form fit. -/
import Derived.Test.YtphienllhdoenaaGreatRows
import Derived.JoinedOf
namespace Go.Proofs.YtphienllhdoenaaGreat
set_option maxHeartbeats 100000000 in
theorem stFacts : joinedFacts Tryz.pinned.checked.prog 5 Tryz.f5 Rows.subTurnedSpec Rows.subTurnedRow = true := by
  unfold joinedFacts
  simp only [Bool.and_eq_true]
  repeat' apply And.intro
  all_goals as_aux_lemma => kernel_rfl
end Go.Proofs.YtphienllhdoenaaGreat
