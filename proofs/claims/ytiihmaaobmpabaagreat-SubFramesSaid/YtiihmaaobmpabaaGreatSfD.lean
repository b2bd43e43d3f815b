/- What a look through the form of the program tells of the law SubFrames: its name, its row and its form fit. -/
import Derived.Test.YtiihmaaobmpabaaGreatRows
import Derived.JoinedOf
namespace Go.Proofs.YtiihmaaobmpabaaGreat
set_option maxHeartbeats 100000000 in
theorem sfFacts : joinedFacts Tryz.pinned.checked.prog 3 Tryz.f3 Rows.subFramesSpec Rows.subFramesRow = true := by
  unfold joinedFacts
  simp only [Bool.and_eq_true]
  repeat' apply And.intro
  all_goals as_aux_lemma => kernel_rfl
end Go.Proofs.YtiihmaaobmpabaaGreat
