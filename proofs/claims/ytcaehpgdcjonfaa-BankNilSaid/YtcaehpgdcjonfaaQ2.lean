/- Loops round by round; slots by another name; splits of numbers. -/
import Derived.Test.YtcaehpgdcjonfaaK7
import Derived.Test.YtcaehpgdcjonfaaQ1
namespace Go.Fo

section
variable {P : Program} {Γ : Gd} {N : Nat} {Q : Exit → Act → World → Prop} {A : List (Nat × MV)} {L : List (Nat × Option MObj)}
/-- a loop that is about to go round -/
def LB (P : Program) (c : Code) (Q : Exit → Act → World → Prop) (a : Act) (w : World) : Prop :=
  ∀ (b : Frame) (k : List Item) (cs : List Frame), ∃ e a' w', Q e a' w' ∧ Arrives P (lone (b.at a (.code c :: .inLoop c :: k)) cs w) b k cs e a' w'
theorem TC_loopU {c : Code} (h : TE Γ N (LB P c Q) A L) : TC P Γ N (.loop c) Q A L := by
  intro a w hs b k cs
  obtain ⟨e, a', w', hq, harr⟩ := h a w hs b k cs
  exact ⟨e, a', w', hq, .of_steps (.one step_loop) harr⟩
theorem TE_lb {c : Code} (h : TC P Γ N c (Exit.then (LB P c Q) Q) A L) : TE Γ N (LB P c Q) A L := by
  intro a w hs b k cs
  obtain ⟨e, a₁, w₁, hq, harr⟩ := h a w hs b (.inLoop c :: k) cs
  cases e with
  | normal =>
    obtain ⟨e₂, a₂, w₂, hq₂, harr₂⟩ := hq b k cs
    exact ⟨e₂, a₂, w₂, hq₂, .of_steps (Steps.trans harr (.one step_inLoop)) harr₂⟩
  | exit id => exact ⟨_, a₁, w₁, hq, .pass (x := .inLoop c) rfl (fun _ _ => .inl (by simp)) harr⟩
  | goto l => exact ⟨_, a₁, w₁, hq, .pass (x := .inLoop c) rfl (fun _ _ => .inl (by simp)) harr⟩
  | ret => exact ⟨_, a₁, w₁, hq, .pass (x := .inLoop c) rfl (fun _ _ => .inl (by simp)) harr⟩
  | panic ch => exact ⟨_, a₁, w₁, hq, .pass (x := .inLoop c) rfl (fun _ _ => .inl (by simp)) harr⟩
  | outgrown => exact ⟨_, a₁, w₁, hq, .pass (x := .inLoop c) rfl (fun _ _ => .inl (by simp)) harr⟩
/-- a number that is one of a few -/
theorem nums {α : Type} {x n : Int} {a b : Option α} {r : α} {G : Prop} (h : (bif x == n then a else b) = some r) (ht : x = n → a = some r → G) (hf : b = some r → G) : G := by
  cases e : (x == n) with
  | true => rw [e] at h; exact ht (by simpa using e) h
  | false => rw [e] at h; exact hf h
/-- a slot is the number that it is known to be -/
theorem TL_num {ops : Array Oper} {l : List Oper} (s : Nat) {k : IntKind} {x : Int} (n : Int) (hx : x = n) (hg : get A s = some (.int k x)) (h : TL P Γ N ops Q l ((s, .int k n) :: A) L) : TL P Γ N ops Q l A L := by
  intro a w hs
  refine h a w (hs.weak (fun t y hy => ?_) (fun _ _ h => h))
  simp only [get] at hy
  split at hy
  · rename_i e'; have := beq_iff_eq.1 e'; subst this; rw [hg, hx]; exact hy
  · exact hy
end
end Go.Fo
