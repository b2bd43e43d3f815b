/- What a look through the form of the program tells of the law SubAny: its name, its row and its form fit. -/
import Derived.Test.YtphienllhdoenaaGreatRows
import Derived.JoinedOf
namespace Go.Proofs.YtphienllhdoenaaGreat
set_option maxHeartbeats 100000000 in
theorem syFacts : joinedFacts Tryz.pinned.checked.prog 10 Tryz.f10 Rows.subAnySpec Rows.subAnyRow = true := by
  unfold joinedFacts
  simp only [Bool.and_eq_true]
  repeat' apply And.intro
  all_goals as_aux_lemma => kernel_rfl
end Go.Proofs.YtphienllhdoenaaGreat
