/- What a look through the form of the program tells of the law ScoreBack: its name, its row and its form fit. -/
import Derived.Test.YtphienllhdoenaaDoorRows
import Derived.JoinedOf
namespace Go.Proofs.YtphienllhdoenaaDoor
set_option maxHeartbeats 100000000 in
theorem sc5Facts : joinedFacts Tryd.pinned.checked.prog 5 Tryd.f5 Rows.scoreBackSpec Rows.scoreBackRow = true := by
  unfold joinedFacts
  simp only [Bool.and_eq_true]
  repeat' apply And.intro
  all_goals as_aux_lemma => kernel_rfl
end Go.Proofs.YtphienllhdoenaaDoor
