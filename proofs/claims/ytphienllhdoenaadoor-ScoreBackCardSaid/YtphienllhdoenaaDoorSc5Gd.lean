/- Lines of steps: what is looked at, and the law. -/
import Derived.Test.YtphienllhdoenaaDoorSc5Gc
namespace Go.Fo
set_option maxRecDepth 6000
theorem nth_mem {k : Kd} {l : List k.T} {i : Nat} (h : i < l.length) : k.nth l i ∈ l := by
  have : k.nth l i = l[i] := nth_drop (List.drop_eq_getElem_cons h)
  rw [this]; exact List.getElem_mem h
/-- not more than is looked at -/
def near (s : Step) : Prop := s.2.2.1.length ≤ 5000 ∧ s.2.2.2.1.length ≤ 300 ∧ s.2.2.2.2.1.length ≤ 300 ∧ s.2.2.2.2.2.length ≤ 40
theorem far_loop (K : Nat) (l : List Step) (hl : l.length ≤ 60) : ∀ (r : List Step) (i e : Nat), l.drop i = r →
    ∃ z, psalteryref30_Far.l0 K l (r.length + e + 1) (i : Int) = some z ∧ (z = .inl () ∧ (∀ s ∈ r, near s) ∨ z = .inr true)
  | [], i, e, h => by
    have hi : l.length ≤ i := List.drop_eq_nil_iff.1 h
    refine ⟨.inl (), ?_, .inl ⟨rfl, fun s hs => by cases hs⟩⟩
    show psalteryref30_Far.r0 K l (psalteryref30_Far.l0 K l (0 + e)) (i : Int) = _
    exact bif_eq_f (decide_eq_false (by omega)) rfl
  | s :: r, i, e, h => by
    have hi := drop_len h
    have e1 : KS.nth l (Int.toNat (i : Int)) = s := nth_drop (k := KS) h
    have step : ∀ v, (bif (bif (bif (bif decide ((s.2.2.1.length : Int) > 5000) then true else decide ((s.2.2.2.1.length : Int) > 300)) then true else decide ((s.2.2.2.2.1.length : Int) > 300)) then true else decide ((s.2.2.2.2.2.length : Int) > 40)) then some (.inr true) else psalteryref30_Far.l0 K l (r.length + 1 + e) (kwrap .i64 ((i : Int) + 1))) = v → psalteryref30_Far.l0 K l ((s :: r).length + e + 1) (i : Int) = v := by
      intro v hv
      show psalteryref30_Far.r0 K l (psalteryref30_Far.l0 K l (r.length + 1 + e)) (i : Int) = _
      refine bif_eq_t (decide_eq_true (by omega)) ?_
      refine gd_eq ⟨by omega, by omega⟩ ?_
      have hv' := hv
      rw [← e1] at hv'
      exact hv'
    by_cases hn : near s
    · obtain ⟨z, g1, g2⟩ := far_loop K l hl r (i + 1) e (drop_tail h)
      refine ⟨z, step _ ?_, ?_⟩
      · unfold near at hn
        refine bif_eq_f (by rw [decide_eq_false (p := (s.2.2.1.length : Int) > 5000) (by omega), decide_eq_false (p := (s.2.2.2.1.length : Int) > 300) (by omega), decide_eq_false (p := (s.2.2.2.2.1.length : Int) > 300) (by omega), decide_eq_false (p := (s.2.2.2.2.2.length : Int) > 40) (by omega)]; rfl) ?_
        rw [kw_i64 (by omega) (by omega), show r.length + 1 + e = r.length + e + 1 by omega]
        exact g1
      · rcases g2 with ⟨rfl, g3⟩ | rfl
        · refine .inl ⟨rfl, fun x hx => ?_⟩
          rcases List.mem_cons.1 hx with rfl | hx
          · exact hn
          · exact g3 x hx
        · exact .inr rfl
    · refine ⟨.inr true, step _ (bif_eq_t ?_ rfl), .inr rfl⟩
      unfold near at hn
      by_cases h1 : (s.2.2.1.length : Int) > 5000
      · rw [decide_eq_true h1]; rfl
      by_cases h2 : (s.2.2.2.1.length : Int) > 300
      · rw [decide_eq_false h1, decide_eq_true h2]; rfl
      by_cases h3 : (s.2.2.2.2.1.length : Int) > 300
      · rw [decide_eq_false h1, decide_eq_false h2, decide_eq_true h3]; rfl
      · rw [decide_eq_false h1, decide_eq_false h2, decide_eq_false h3, decide_eq_true (p := (s.2.2.2.2.2.length : Int) > 40) (by omega)]; rfl
theorem far_w (K : Nat) (hK : 70 ≤ K) (l : List Step) : ∃ b, psalterylaw34_far K l = some b ∧ (b = false → l.length ≤ 60 ∧ ∀ s ∈ l, near s) := by
  by_cases hl : l.length ≤ 60
  · obtain ⟨z, g1, g2⟩ := far_loop K l hl l 0 (K - l.length - 1) rfl
    rw [show l.length + (K - l.length - 1) + 1 = K by omega] at g1
    rcases g2 with ⟨rfl, g3⟩ | rfl
    · have hs := acc_loop0 (r := psalterylaw34_far.r0 K l) (b := fun _ _ => none) l.length (fun k x => kwrap .i64 (x + ((KS.nth l k).2.2.1.length : Int))) 0 (some (accf (fun k x => kwrap .i64 (x + ((KS.nth l k).2.2.1.length : Int))) 0 l.length)) (fun next k x hk => by
          refine bif_eq_t (decide_eq_true (by omega)) ?_
          refine gd_eq ⟨by omega, by omega⟩ ?_
          rw [kw_i64 (x := (k : Int) + 1) (by omega) (by omega)]; rfl) (fun next => bif_eq_f (decide_eq_false (by omega)) rfl) (K := K) (by omega)
      refine ⟨_, bnd_eq (x := false) (bif_eq_f (decide_eq_false (by omega)) (bnd_eq g1 rfl)) (bif_eq_f rfl (bnd_eq hs rfl)), fun _ => ⟨hl, g3⟩⟩
    · exact ⟨true, bnd_eq (x := true) (bif_eq_f (decide_eq_false (by omega)) (bnd_eq g1 rfl)) rfl, fun h => by cases h⟩
  · exact ⟨true, bnd_eq (x := true) (bif_eq_t (decide_eq_true (by omega)) rfl) rfl, fun h => by cases h⟩
theorem of1_w (K : Nat) (k n : Int) (a b c : List Int) (d : List Slot) (hd : d.length ≤ 70000) (hK : d.length + 1 ≤ K) : psalterylaw30_Of K k n a b c d = some d := by
  refine bnd_eq (x := d) ?_ rfl
  refine app_loop0 (r := psalterylaw30_Of.r0 K k n a b c d) d.length (fun i => Kd.nth (.pair (.int .i64) (.pair (.int .i64) (.pair (.int .i64) (.int .u32)))) d i) (fun k => (k : Int)) _ (fun next j hj => ?_) (fun next => ?_) hK
  · refine bif_eq_t (decide_eq_true (show (j : Int) < (d.length : Int) by omega)) ?_
    refine gd_eq ⟨by omega, by omega⟩ ?_
    refine gd_eq (by rw [tabOf_len]; simp only [List.length_cons, List.length_nil]; omega) ?_
    rw [kw_i64 (by omega) (by omega), tabOf_succ]; rfl
  · refine bif_eq_f (decide_eq_false (show ¬ ((d.length : Nat) : Int) < (d.length : Int) by omega)) ?_
    rw [nth_tab]
theorem of_all (K : Nat) (l : List Step) (hl : l.length ≤ 4096) (hK : 70100 ≤ K) (hs : ∀ s ∈ l, s.2.2.2.2.2.length ≤ 70000) : psalterylaw34_of K l = some l := by
  refine bnd_eq (x := l) ?_ rfl
  refine app_loop0 (r := psalterylaw34_of.r0 K l) l.length (fun i => KS.nth l i) (fun k => (k : Int)) _ (fun next j hj => ?_) (fun next => ?_) (by omega)
  · have hm := hs _ (nth_mem (k := KS) hj)
    refine bif_eq_t (decide_eq_true (show (j : Int) < (l.length : Int) by omega)) ?_
    refine gd_eq ⟨by omega, by omega⟩ ?_
    refine bnd_eq (of1_w K _ _ _ _ _ _ hm (by
      show (KS.nth l (Int.toNat (j : Int))).2.2.2.2.2.length + 1 ≤ K
      rw [Int.toNat_natCast]; omega)) ?_
    refine gd_eq (by rw [tabOf_len]; simp only [List.length_cons, List.length_nil]; omega) ?_
    rw [kw_i64 (by omega) (by omega), tabOf_succ]; rfl
  · refine bif_eq_f (decide_eq_false (show ¬ ((l.length : Nat) : Int) < (l.length : Int) by omega)) ?_
    rw [nth_tab]
/-- the ranges of the arguments -/
theorem wf_step {l : List Step} (h : (Kd.slice KS).wf l) : ∀ s ∈ l, (∀ x ∈ s.2.2.1, -32768 ≤ x ∧ x ≤ 32767) ∧ (∀ x ∈ s.2.2.2.1, 0 ≤ x ∧ x < 256) ∧ (∀ x ∈ s.2.2.2.2.1, 0 ≤ x ∧ x < 256) ∧ (∀ x ∈ s.2.2.2.2.2, 0 ≤ x.2.2.2 ∧ x.2.2.2 < 4294967296) := by
  intro s hs
  obtain ⟨_, _, h3, h4, h5, h6⟩ := h.2 s hs
  exact ⟨fun x hx => wf_i16 (h3.2 x hx), fun x hx => wf_u8 (h4.2 x hx), fun x hx => wf_u8 (h5.2 x hx), fun x hx => wf_u32 (h6.2 x hx).2.2.2⟩
theorem near_ok {s : Step} (hn : near s) (h : (∀ x ∈ s.2.2.1, -32768 ≤ x ∧ x ≤ 32767) ∧ (∀ x ∈ s.2.2.2.1, 0 ≤ x ∧ x < 256) ∧ (∀ x ∈ s.2.2.2.2.1, 0 ≤ x ∧ x < 256) ∧ (∀ x ∈ s.2.2.2.2.2, 0 ≤ x.2.2.2 ∧ x.2.2.2 < 4294967296)) : okIn s := by
  unfold near at hn
  exact ⟨h.1, by omega, h.2.1, by omega, h.2.2.1, by omega, h.2.2.2, by omega⟩
end Go.Fo
