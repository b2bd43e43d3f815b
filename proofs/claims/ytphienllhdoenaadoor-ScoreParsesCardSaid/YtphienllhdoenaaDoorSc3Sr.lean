/- The law: the steps of any lines are the document's. -/
import Derived.Test.YtphienllhdoenaaDoorSc3Sp
import Derived.KernelRfl
namespace Go.Fo
set_option maxRecDepth 6000
theorem alive_k : psalterylaw34_alive 12400 = some true := by kernel_rfl
theorem parses_w (s : ByteArray) : psalterylaw34_ScoreParses 12400 s = some true := by
  refine bnd_eq alive_k ?_
  refine bif_eq_f rfl ?_
  by_cases h1 : s.size ≤ 4000
  · refine bif_eq_f (by rw [decide_eq_false (p := (s.size : Int) > 4000) (by omega)]; rfl) ?_
    obtain ⟨r, g1, g2, g3⟩ := parse_w 12400 s (by omega) (by omega)
    refine bnd_eq g1 ?_
    rcases r with ⟨a, b⟩ | out
    · refine bnd_eq g2 ?_
      refine bnd_eq (x := ()) rfl ?_
      refine bnd_eq (x := ()) rfl ?_
      show some (bif (a == a) then (b == b) else false) = _
      rw [beq_self_eq_true, beq_self_eq_true]; rfl
    · obtain ⟨h2, h3⟩ := g3 out rfl
      refine bnd_eq g2 ?_
      refine bnd_eq (to_w 12400 (s.size + 4100) out h3 h2 (by omega) (by omega)) ?_
      exact bnd_eq (same_w 12400 (s.size + 4100) out h3 h2 (by omega) (by omega)) rfl
  · by_cases h2 : s.size ≤ 65536
    · exact bif_eq_t (by rw [decide_eq_true (p := (s.size : Int) > 4000) (by omega), decide_eq_true (p := (s.size : Int) ≤ 65536) (by omega)]; rfl) rfl
    · refine bif_eq_f (by rw [decide_eq_true (p := (s.size : Int) > 4000) (by omega), decide_eq_false (p := (s.size : Int) ≤ 65536) (by omega)]; rfl) ?_
      refine bnd_eq (x := .inl (0, 2)) (bif_eq_t (decide_eq_true (by omega)) rfl) ?_
      refine bnd_eq (x := .inl (0, 2)) (bif_eq_t (decide_eq_true (by omega)) rfl) ?_
      rfl
end Go.Fo
