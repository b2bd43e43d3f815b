/- What can't be, and what nothing answers: the plain fact. -/
import Derived.Test.YtphienllhdoenaaPwF
import Derived.Test.YtphienllhdoenaaJ3
import Derived.KernelRfl
namespace Go.Fo
set_option maxRecDepth 6000
theorem aliveP_w : psalterylaw08_alive 300 = some true := by kernel_rfl
def isR {α β : Type} : Option (α ⊕ β) → Bool | some (.inr _) => true | _ => false
theorem isR_ex {α β : Type} {o : Option (α ⊕ β)} (h : isR o = true) : ∃ r, o = some (.inr r) := by
  unfold isR at h
  split at h
  · exact ⟨_, rfl⟩
  · cases h
def isL {α β : Type} : Option (α ⊕ β) → Bool | some (.inl _) => true | _ => false
theorem isL_ex {α β : Type} {o : Option (α ⊕ β)} (h : isL o = true) : ∃ r, o = some (.inl r) := by
  unfold isL at h
  split at h
  · exact ⟨_, rfl⟩
  · cases h
theorem in4 : ((List.range 101).all fun n => psalterylaw08_PolyWrong 300 4 (n : Int) == some true) = true := by kernel_rfl
theorem in8 : ((List.range 101).all fun n => psalterylaw08_PolyWrong 300 8 (n : Int) == some true) = true := by kernel_rfl
theorem out_w (m : Int) (hm : m = 4 ∨ m = 8) (n : Int) (h : (bif decide (n < 0) then true else decide (n > 100)) = true) : psalterylaw08_PolyWrong 300 m n = some true := by
  have hs : ∃ r, poly_NewSplitter 300 m (List.replicate 388 none) 0 0 = some (.inr r) := by
    rcases hm with rfl | rfl
    · exact isR_ex (by kernel_rfl)
    · exact isR_ex (by kernel_rfl)
  have hj : ∃ r, poly_NewJoiner 300 m (List.replicate 388 none) 0 0 = some (.inr r) := by
    rcases hm with rfl | rfl
    · exact isR_ex (by kernel_rfl)
    · exact isR_ex (by kernel_rfl)
  obtain ⟨⟨a1, a2, a3, a4, a5, a6⟩, hs⟩ := hs
  obtain ⟨⟨b1, b2, b3, b4, b5, b6⟩, hj⟩ := hj
  have hv : (bif (m != 4) then (m != 8) else false) = false := by rcases hm with rfl | rfl <;> rfl
  refine bnd_eq aliveP_w ?_
  refine bif_eq_f rfl ?_
  refine bnd_eq (x := ()) rfl ?_
  refine bnd_eq hs ?_
  refine bnd_eq (x := ()) rfl ?_
  refine bnd_eq hj ?_
  refine bif_eq_f hv ?_
  exact bif_eq_t h rfl
theorem no_w (m n : Int) (h4 : m ≠ 4) (h8 : m ≠ 8) : psalterylaw08_PolyWrong 300 m n = some true := by
  have hb4 : (m == 4) = false := beq_eq_false_iff_ne.2 h4
  have hb8 : (m == 8) = false := beq_eq_false_iff_ne.2 h8
  have hf : ∀ t a b, isL (bank_Bank_Filter 300 m t a b) = true := by
    intro t a b
    unfold bank_Bank_Filter
    rw [hb4, hb8]; rfl
  have ht : ∀ t a b, isL (poly_tables 300 m t a b) = true := by
    intro t a b
    obtain ⟨r, hr⟩ := isL_ex (hf t a b)
    unfold poly_tables
    rw [hr]; rfl
  have hs : ∀ t a b, ∃ r, poly_NewSplitter 300 m t a b = some (.inl r) := by
    intro t a b
    obtain ⟨r, hr⟩ := isL_ex (ht t a b)
    unfold poly_NewSplitter
    rw [hr]; exact ⟨_, rfl⟩
  have hj : ∀ t a b, ∃ r, poly_NewJoiner 300 m t a b = some (.inl r) := by
    intro t a b
    obtain ⟨r, hr⟩ := isL_ex (ht t a b)
    unfold poly_NewJoiner
    rw [hr]; exact ⟨_, rfl⟩
  obtain ⟨⟨a1, a2, a3⟩, hs⟩ := hs (List.replicate 388 none) 0 0
  obtain ⟨⟨b1, b2, b3⟩, hj⟩ := hj (List.replicate 388 none) 0 0
  refine bnd_eq aliveP_w ?_
  refine bif_eq_f rfl ?_
  refine bnd_eq (x := ()) rfl ?_
  refine bnd_eq hs ?_
  refine bnd_eq (x := ()) rfl ?_
  refine bnd_eq hj ?_
  exact bif_eq_t (by rw [bne, bne, hb4, hb8]; rfl) rfl
theorem polyWrong_w (m n : Int) : psalterylaw08_PolyWrong 300 m n = some true := by
  by_cases h4 : m = 4
  · subst h4
    by_cases h : 0 ≤ n ∧ n ≤ 100
    · have := beq_iff_eq.1 (List.all_eq_true.1 in4 n.toNat (List.mem_range.2 (by omega)))
      rw [show ((n.toNat : Nat) : Int) = n by omega] at this
      exact this
    · refine out_w 4 (.inl rfl) n ?_
      by_cases h0 : n < 0
      · rw [decide_eq_true h0]; rfl
      · rw [decide_eq_false h0]; exact decide_eq_true (by omega)
  by_cases h8 : m = 8
  · subst h8
    by_cases h : 0 ≤ n ∧ n ≤ 100
    · have := beq_iff_eq.1 (List.all_eq_true.1 in8 n.toNat (List.mem_range.2 (by omega)))
      rw [show ((n.toNat : Nat) : Int) = n by omega] at this
      exact this
    · refine out_w 8 (.inr rfl) n ?_
      by_cases h0 : n < 0
      · rw [decide_eq_true h0]; rfl
      · rw [decide_eq_false h0]; exact decide_eq_true (by omega)
  exact no_w m n h4 h8
end Go.Fo
