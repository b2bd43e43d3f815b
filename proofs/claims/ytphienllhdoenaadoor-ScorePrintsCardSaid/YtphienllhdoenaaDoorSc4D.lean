/- What a look through the form of the program tells of the law ScorePrints: its name, its row and its form fit. -/
import Derived.Test.YtphienllhdoenaaDoorRows
import Derived.JoinedOf
namespace Go.Proofs.YtphienllhdoenaaDoor
set_option maxHeartbeats 100000000 in
theorem sc4Facts : joinedFacts Tryd.pinned.checked.prog 4 Tryd.f4 Rows.scorePrintsSpec Rows.scorePrintsRow = true := by
  unfold joinedFacts
  simp only [Bool.and_eq_true]
  repeat' apply And.intro
  all_goals as_aux_lemma => kernel_rfl
end Go.Proofs.YtphienllhdoenaaDoor
