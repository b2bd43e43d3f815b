/- What a look through the form of the program tells of the law LappedForgets: its name, its row and its form fit. -/
import Derived.Test.YtphienllhdoenaaRows
import Derived.JoinedOf
namespace Go.Proofs.Ytphienllhdoenaa
set_option maxHeartbeats 100000000 in
theorem loFacts : joinedFacts Try.pinned.checked.prog 11 Try.f11 Rows.lappedForgetsSpec Rows.lappedForgetsRow = true := by
  unfold joinedFacts
  simp only [Bool.and_eq_true]
  repeat' apply And.intro
  all_goals as_aux_lemma => kernel_rfl
end Go.Proofs.Ytphienllhdoenaa
