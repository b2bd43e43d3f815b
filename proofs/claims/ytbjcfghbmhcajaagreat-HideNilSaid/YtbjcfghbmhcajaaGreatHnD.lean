/- What a look through the form of the program tells of the law HideNil: its name, its row and its form fit. -/
import Derived.Test.YtbjcfghbmhcajaaGreatRows
import Derived.JoinedOf
namespace Go.Proofs.YtbjcfghbmhcajaaGreat
set_option maxHeartbeats 100000000 in
theorem hnFacts : joinedFacts Tryz.pinned.checked.prog 3 Tryz.f3 Rows.hideNilSpec Rows.hideNilRow = true := by
  unfold joinedFacts
  simp only [Bool.and_eq_true]
  repeat' apply And.intro
  all_goals as_aux_lemma => kernel_rfl
end Go.Proofs.YtbjcfghbmhcajaaGreat
