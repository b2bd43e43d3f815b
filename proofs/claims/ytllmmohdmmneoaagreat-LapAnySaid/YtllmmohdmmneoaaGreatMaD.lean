/- What a look through the form of the program tells of the law LapAny: its name, its row and its form fit. -/
import Derived.Test.YtllmmohdmmneoaaGreatRows
import Derived.JoinedOf
namespace Go.Proofs.YtllmmohdmmneoaaGreat
set_option maxHeartbeats 100000000 in
theorem maFacts : joinedFacts Tryz.pinned.checked.prog 3 Tryz.f3 Rows.lapAnySpec Rows.lapAnyRow = true := by
  unfold joinedFacts
  simp only [Bool.and_eq_true]
  repeat' apply And.intro
  all_goals as_aux_lemma => kernel_rfl
end Go.Proofs.YtllmmohdmmneoaaGreat
