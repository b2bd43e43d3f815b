/- A code's normal ends told once; rounds; small helpers of the written proofs. -/
import Derived.Test.YtcaehpgdcjonfaaK2
namespace Go.Fo

theorem sinj {α : Type} {a b : α} (h : some a = some b) : b = a := by cases h; rfl
theorem nsome {α : Type} {z : α} (h : (none : Option α) = some z) : False := by cases h
theorem ftf (h : false = true) : False := by cases h
theorem tff (h : true = false) : False := by cases h
theorem and_l {a b : Bool} (h : (a && b) = true) : a = true := by cases a <;> simp_all
theorem and_r {a b : Bool} (h : (a && b) = true) : b = true := by cases a <;> simp_all
/-- so many rounds -/
def rounds {α : Type} (f : α → α) (b : α) : Nat → α
  | 0 => b
  | n + 1 => f (rounds f b n)

section
variable {P : Program} {Γ : Gd} {N : Nat} {Q : Exit → Act → World → Prop} {A A' : List (Nat × MV)} {L L' : List (Nat × Option MObj)}
theorem TC_cut {c : Code} {α : Type} (p : α → Prop) (SA : α → List (Nat × MV)) (SL : α → List (Nat × Option MObj)) (h : TC P Γ N c (Exit.then (SP Γ N p SA SL) Q) A L) (h2 : ∀ z, p z → TE Γ N (Q .normal) (SA z) (SL z)) : TC P Γ N c Q A L := fun a w hs =>
  wp_mono (h a w hs) fun e a w q => by
    cases e with
    | normal => obtain ⟨z, hz, hs⟩ := q; exact h2 z hz a w hs
    | _ => exact q
theorem TE_renw {R : Act → World → Prop} (l : List (Nat × Nat)) (hA : SubAr (sg l) A' A) (hL : SubLr (sg l) L' L) (hb : sgB l (keysO L') = true) (h : TE Γ N R A' L') : TE Γ N R A L := by
  simp only [sgB, Bool.and_eq_true] at hb
  exact fun a w hs => h a w (hs.ren (sg l) hA hL (injB_ok hb.2) (sg_low hb.1))
end
end Go.Fo
