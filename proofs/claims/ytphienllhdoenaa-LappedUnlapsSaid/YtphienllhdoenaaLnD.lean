/- What a look through the form of the program tells of the law LappedUnlaps: its name, its row and its form fit. -/
import Derived.Test.YtphienllhdoenaaRows
import Derived.JoinedOf
namespace Go.Proofs.Ytphienllhdoenaa
set_option maxHeartbeats 100000000 in
theorem lnFacts : joinedFacts Try.pinned.checked.prog 10 Try.f10 Rows.lappedUnlapsSpec Rows.lappedUnlapsRow = true := by
  unfold joinedFacts
  simp only [Bool.and_eq_true]
  repeat' apply And.intro
  all_goals as_aux_lemma => kernel_rfl
end Go.Proofs.Ytphienllhdoenaa
