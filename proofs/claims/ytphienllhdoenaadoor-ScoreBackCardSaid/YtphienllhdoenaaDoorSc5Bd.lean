/- The law: steps come back from their lines. -/
import Derived.Test.YtphienllhdoenaaDoorSc5Bc
namespace Go.Fo
set_option maxRecDepth 6000
theorem alive_k : psalterylaw34_alive 74300 = some true := by kernel_rfl
theorem okIn_A {l : List Step} (h : ∀ s ∈ l, okIn s) : okA 70000 l := fun y hy => ⟨(h y hy).2.1, (h y hy).2.2.2.2.2.2.2⟩
theorem back_w (l : List Step) (h : (Kd.slice KS).wf l) (s : ByteArray) : psalterylaw34_ScoreBack 74300 l s = some true := by
  refine bnd_eq alive_k ?_
  refine bif_eq_f rfl ?_
  obtain ⟨b, hb, hn⟩ := far_w 74300 (by decide) l
  refine bnd_eq hb ?_
  cases b with
  | true => rfl
  | false =>
    obtain ⟨hl, hs⟩ := hn rfl
    by_cases h4 : (s.size : Int) > 4000
    · exact bif_eq_t (decide_eq_true h4) rfl
    have hw := wf_step h
    have hok : ∀ s ∈ l, okIn s := fun s hm => near_ok (hs s hm) (hw s hm)
    refine bif_eq_f (decide_eq_false h4) ?_
    refine bnd_eq (of_all 74300 l (by omega) (by decide) (fun s hm => (hok s hm).2.2.2.2.2.2.2)) ?_
    refine bnd_eq (print_w 74300 (by decide) l hok (by omega)) ?_
    refine bnd_eq (x := .inl ()) ?_ ?_
    · cases hp : prints l with
      | none => exact bif_eq_f rfl rfl
      | some u =>
        dsimp only
        by_cases hu : u.length > 65536
        · rw [if_pos hu]; exact bif_eq_f rfl rfl
        · rw [if_neg hu]
          refine bif_eq_t rfl ?_
          refine bnd_eq (told_parse 74300 (by decide) l (by omega) hok u hp (by omega)) ?_
          refine bnd_eq (to_w 74300 70000 l (by omega) (okIn_A hok) (by decide) (by decide)) ?_
          refine bnd_eq (same_w 74300 70000 l (by omega) (okIn_A hok) (by decide) (by decide)) ?_
          exact bif_eq_f rfl rfl
    · obtain ⟨r, g1, g2⟩ := any_parse 74300 s (by omega) (by omega)
      refine bnd_eq g1 ?_
      rcases g2 with ⟨m, rfl, m1, m2⟩ | ⟨k, rfl⟩
      · have mok : ∀ y ∈ m, okIn y := fun y hy => (m2 y hy).1
        refine bnd_eq (print_w 74300 (by decide) m mok m1) ?_
        obtain ⟨u, hu⟩ := prints_some m m2
        unfold printV
        rw [hu]
        dsimp only
        by_cases hl2 : u.length > 65536
        · rw [if_pos hl2]
          obtain ⟨r', k1, k2⟩ := any_parse 74300 ⟨#[]⟩ (by decide) (by decide)
          refine bnd_eq k1 ?_
          rcases k2 with ⟨m', rfl, _, _⟩ | ⟨k, rfl⟩
          · exact bnd_eq (bif_eq_t rfl rfl) rfl
          · exact bnd_eq (bif_eq_t rfl rfl) rfl
        · rw [if_neg hl2]
          refine bnd_eq (told_parse 74300 (by decide) m m1 mok u hu (by omega)) ?_
          refine bnd_eq (x := true) ?_ rfl
          refine bif_eq_f rfl ?_
          refine bnd_eq (to_w 74300 70000 m m1 (okIn_A mok) (by decide) (by decide)) ?_
          refine bnd_eq (to_w 74300 70000 m m1 (okIn_A mok) (by decide) (by decide)) ?_
          exact bnd_eq (same_w 74300 70000 m m1 (okIn_A mok) (by decide) (by decide)) rfl
      · exact bif_eq_t rfl rfl
end Go.Fo
