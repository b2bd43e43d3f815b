/- The law: the lines of any steps are the document's. -/
import Derived.Test.YtphienllhdoenaaDoorSc4Gd
namespace Go.Fo
set_option maxRecDepth 6000
theorem alive_k : psalterylaw34_alive 70200 = some true := by kernel_rfl
theorem prints_holds (l : List Step) (h : (Kd.slice KS).wf l) : psalterylaw34_ScorePrints 70200 l = some true := by
  refine bnd_eq alive_k ?_
  refine bif_eq_f rfl ?_
  obtain ⟨b, hb, hn⟩ := far_w 70200 (by decide) l
  refine bnd_eq hb ?_
  cases b with
  | true => rfl
  | false =>
    obtain ⟨hl, hs⟩ := hn rfl
    have hw := wf_step h
    have hok : ∀ s ∈ l, okIn s := fun s hm => near_ok (hs s hm) (hw s hm)
    refine bif_eq_f rfl ?_
    refine bnd_eq (of_all 70200 l (by omega) (by decide) (fun s hm => (hok s hm).2.2.2.2.2.2.2)) ?_
    refine bnd_eq (print_w 70200 (by decide) l hok (by omega)) ?_
    refine bnd_eq (rprint_w 70200 (by decide) l hok (by omega)) ?_
    show some (bif beqs (printV l).1 (printV l).1 then (printV l).2 == (printV l).2 else false) = _
    rw [beqs_bl, beq_self_eq_true, beq_self_eq_true]; rfl
end Go.Fo
