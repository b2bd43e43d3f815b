/- No bank: the plain fact. -/
import Derived.Test.YtcaehpgdcjonfaaBnTb
namespace Go.Fo
set_option maxRecDepth 6000
theorem alive4_w : psalterylaw04_alive 1100 = some true := by kernel_rfl
theorem bankNil_w (k n : Int) : psalterylaw04_BankNil 1100 k n = some true := by
  refine bnd_eq alive4_w ?_
  refine bif_eq_f (by decide) ?_
  have e1 : ∃ z, psalteryref04_Turn 1100 n = some z := by
    rw [rturn_w 1100 (by decide) n]; split <;> exact ⟨_, rfl⟩
  have e2 : ∃ z, psalteryref04_Slope 1100 n = some z := by
    rw [rslope_w 1100 (by decide) n]; split <;> exact ⟨_, rfl⟩
  have e3 : ∃ z, psalteryref04_Filter 1100 n = some z := by
    rw [rfilt_w n]; split <;> exact ⟨_, rfl⟩
  have h : ∃ z, psalterylaw04_ask 1100 k n = some z := by
    unfold psalterylaw04_ask
    obtain ⟨z1, e1⟩ := e1
    obtain ⟨z2, e2⟩ := e2
    obtain ⟨z3, e3⟩ := e3
    rw [e1, e2, e3]
    cases k == 0 with
    | true => cases z1 with
      | inl _ => exact ⟨.inl (), rfl⟩
      | inr r => exact ⟨.inr r, rfl⟩
    | false => cases k == 1 with
      | true => cases z2 with
        | inl _ => exact ⟨.inl (), rfl⟩
        | inr r => exact ⟨.inr r, rfl⟩
      | false => cases z3 with
        | inl _ => exact ⟨.inl (), rfl⟩
        | inr r => exact ⟨.inr r, rfl⟩
  obtain ⟨z, hz⟩ := h
  refine bnd_eq hz ?_
  cases z <;> rfl
end Go.Fo
