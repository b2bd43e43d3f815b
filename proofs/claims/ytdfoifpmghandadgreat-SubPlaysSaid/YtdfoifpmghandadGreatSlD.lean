/- What a look through the form of the program tells of the law SubPlays: its name, its row and its form fit. -/
import Derived.Test.YtdfoifpmghandadGreatRows
import Derived.JoinedOf
namespace Go.Proofs.YtdfoifpmghandadGreat
set_option maxHeartbeats 100000000 in
theorem slFacts : joinedFacts Tryz.pinned.checked.prog 3 Tryz.f3 Rows.subPlaysSpec Rows.subPlaysRow = true := by
  unfold joinedFacts
  simp only [Bool.and_eq_true]
  repeat' apply And.intro
  all_goals as_aux_lemma => kernel_rfl
end Go.Proofs.YtdfoifpmghandadGreat
