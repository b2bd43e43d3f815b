/- What a look through the form of the program tells of the law BankNil: its name, its row and its form fit. -/
import Derived.Test.YtcaehpgdcjonfaaRows
import Derived.JoinedOf
namespace Go.Proofs.Ytcaehpgdcjonfaa
set_option maxHeartbeats 100000000 in
theorem bnFacts : joinedFacts Try.pinned.checked.prog 15 Try.f15 Rows.bankNilSpec Rows.bankNilRow = true := by
  unfold joinedFacts
  simp only [Bool.and_eq_true]
  repeat' apply And.intro
  all_goals as_aux_lemma => kernel_rfl
end Go.Proofs.Ytcaehpgdcjonfaa
