/- What a look through the form of the program tells of the law BankOnce: its name, its row and its form fit. -/
import Derived.Test.YtcaehpgdcjonfaaRows
import Derived.JoinedOf
namespace Go.Proofs.Ytcaehpgdcjonfaa
set_option maxHeartbeats 100000000 in
theorem boFacts : joinedFacts Try.pinned.checked.prog 14 Try.f14 Rows.bankOnceSpec Rows.bankOnceRow = true := by
  unfold joinedFacts
  simp only [Bool.and_eq_true]
  repeat' apply And.intro
  all_goals as_aux_lemma => kernel_rfl
end Go.Proofs.Ytcaehpgdcjonfaa
