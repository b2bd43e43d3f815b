/- What the evaluator tells of equality is what the machine does. -/
import Derived.Test.YtcaehpgdcjonfaaKd
namespace Go.Fo

theorem equal_unf (t : TypeId) (x y : Value) : Op.equal t x y = Op.equalIn (9999 + 1) t x y := rfl

/-- the outcome of a test of equality -/
def EqRes (P : Program) (T : TypeId) (u v : Value) (b : Bool) : Prop :=
  ∀ (op : BinOp) (e : Bool) (ox oy : Operand) (w : World), isEq op = some e → (do eqGuard op T ox oy u v; binOp op T u v : Sem Value).run P w = .ok (.bool (if e then b else !b)) w

theorem eqres_of {P : Program} {T : TypeId} {u v : Value} {b : Bool} (h1 : ∀ w, (Op.equal T u v).run P w = .ok b w) (h2 : ∀ op ox oy w, (eqGuard op T ox oy u v).run P w = .ok () w)
    (h3 : binOp .eql T u v = (do pure (.bool (← Op.equal T u v)))) (h4 : binOp .neq T u v = (do pure (.bool (!(← Op.equal T u v))))) : EqRes P T u v b := by
  intro op e ox oy w he
  cases op <;> simp only [isEq, Option.some.injEq, reduceCtorEq] at he
  · subst he
    rw [run_bind', h2]; simp only
    rw [h3, run_bind', h1]; rfl
  · subst he
    rw [run_bind', h2]; simp only
    rw [h4, run_bind', h1]; rfl

theorem eqm_ok {P : Program} {T : TypeId} {i : TI} (ht : TOK P T i) {x y : MV} {b : Bool} {C : Prop} (h : eqm i.tag x y = some (b, C)) (hC : C) {ρ : Nat → Hd} {m : Mem} {u v : Value}
    (hu : Cv ρ m x u) (hv : Cv ρ m y v) : EqRes P T u v b := by
  obtain ⟨d, hd, _, htag⟩ := ht.und
  have hund := fun w => run_underlying hd w
  have key : ∀ w, (Op.equal T u v).run P w = match (Op.equalIn (9999 + 1) T u v).run P w with | r => r := fun w => rfl
  unfold eqm at h
  split at h
  · -- bools
    split at h
    · rename_i a c hg
      simp only [Option.some.injEq, Prod.mk.injEq] at h; obtain ⟨rfl, rfl⟩ := h
      simp only [Cv] at hu hv; subst hu hv
      simp only [beq_iff_eq] at hg; rw [hg] at htag
      have : d = .bool := by cases d <;> simp_all [tagOf]
      subst this
      refine eqres_of (fun w => ?_) (fun op ox oy w => ?_) rfl rfl
      · rw [equal_unf, Op.equalIn, run_bind', hund]; rfl
      · cases op <;> rfl
    · cases h
  all_goals first
    | (split at h
       case isTrue hg =>
        simp only [Option.some.injEq, Prod.mk.injEq] at h; obtain ⟨rfl, rfl⟩ := h
        simp only [Cv] at hu hv
        simp only [beq_iff_eq] at hg; rw [hg] at htag
        first
          | (subst hu hv
             obtain ⟨e, rfl⟩ : ∃ e, d = .pointer e := by cases d <;> simp_all [tagOf]
             refine eqres_of (fun w => ?_) (fun op ox oy w => ?_) rfl rfl
             · rw [equal_unf, Op.equalIn, run_bind', hund]; rfl
             · cases op <;> rfl)
          | (subst hu hv
             obtain ⟨e, rfl⟩ : ∃ e, d = .slice e := by cases d <;> simp_all [tagOf]
             refine eqres_of (fun w => ?_) (fun op ox oy w => ?_) rfl rfl
             · rw [equal_unf, Op.equalIn, run_bind', hund]; rfl
             · cases op <;> rfl)
          | (subst hu hv
             obtain ⟨e1, e2, e3, rfl⟩ : ∃ e1 e2 e3, d = .func e1 e2 e3 := by cases d <;> simp_all [tagOf]
             refine eqres_of (fun w => ?_) (fun op ox oy w => ?_) rfl rfl
             · rw [equal_unf, Op.equalIn, run_bind', hund]; rfl
             · cases op <;> rfl)
          | (obtain ⟨vs, rfl, _⟩ := hu; subst hv
             obtain ⟨e1, e2, e3, rfl⟩ : ∃ e1 e2 e3, d = .func e1 e2 e3 := by cases d <;> simp_all [tagOf]
             refine eqres_of (fun w => ?_) (fun op ox oy w => ?_) rfl rfl
             · rw [equal_unf, Op.equalIn, run_bind', hund]; rfl
             · cases op <;> rfl)
          | (obtain ⟨z, rfl, _⟩ := hu; subst hv
             obtain ⟨e, rfl⟩ : ∃ e, d = .interface e := by cases d <;> simp_all [tagOf]
             refine eqres_of (fun w => ?_) (fun op ox oy w => ?_) rfl rfl
             · rw [equal_unf, Op.equalIn, run_bind', hund]; rfl
             · cases op <;> rfl)
          | (obtain ⟨b, off, cells, T', fr, rfl, _⟩ := hu; subst hv
             obtain ⟨e, rfl⟩ : ∃ e, d = .pointer e := by cases d <;> simp_all [tagOf]
             refine eqres_of (fun w => ?_) (fun op ox oy w => ?_) rfl rfl
             · rw [equal_unf, Op.equalIn, run_bind', hund]; rfl
             · cases op <;> rfl)
          | (obtain ⟨z, hz, hs⟩ := hu; subst hv
             simp only [List.cons.injEq, and_true] at hz; subst hz
             obtain ⟨e, rfl⟩ : ∃ e, d = .slice e := by cases d <;> simp_all [tagOf]
             rcases hs with ⟨_, _, hs⟩ | ⟨b, off, cap, cells, T', fr, rfl, _⟩
             · exact absurd hs hC
             refine eqres_of (fun w => ?_) (fun op ox oy w => ?_) rfl rfl
             · rw [equal_unf, Op.equalIn, run_bind', hund]; rfl
             · cases op <;> rfl)
       case isFalse => cases h)
    | (cases h; done)

theorem binM_ok {P : Program} {tab : Nat → Option TI} (hT : ∀ t i, tab t = some i → TOK P t i) (hE : ∀ t i, tab t = some i → i.eqf = true → EqF P t i) {op : BinOp} {T : TypeId} {x y r : MV} {C : Prop}
    (h : binM tab op T x y = some (r, C)) (hC : C) {ρ : Nat → Hd} {m : Mem} {u v : Value} (hu : Cv ρ m x u) (hv : Cv ρ m y v) (ox oy : Operand) (w : World) :
    ∃ z, (do eqGuard op T ox oy u v; binOp op T u v : Sem Value).run P w = .ok z w ∧ Cv ρ m r z := by
  unfold binM at h
  split at h
  · rename_i k a k' c
    obtain ⟨z, h1, h2⟩ := bin_ok h hC T w hu hv
    simp only [Cv] at hu hv; subst hu hv
    refine ⟨z, ?_, h2⟩
    rw [run_bind']
    have : (eqGuard op T ox oy (.int k a) (.int k' c)).run P w = .ok () w := by cases op <;> rfl
    rw [this]; exact h1
  · rename_i s t
    obtain ⟨z, h1, h2⟩ := bin_ok h hC T w hu hv
    simp only [Cv] at hu hv; subst hu hv
    refine ⟨z, ?_, h2⟩
    rw [run_bind']
    have : (eqGuard op T ox oy (.string s) (.string t)).run P w = .ok () w := by cases op <;> rfl
    rw [this]; exact h1
  · rename_i l l'
    split at h
    · rename_i e i he hi
      split at h
      · rename_i hc
        simp only [Bool.and_eq_true] at hc
        split at h
        · rename_i b hb
          simp only [Option.some.injEq, Prod.mk.injEq] at h; obtain ⟨rfl, rfl⟩ := h
          obtain ⟨us, rfl, cu⟩ := hu
          obtain ⟨vs, rfl, cv⟩ := hv
          have hF := hE T i hi hc.1.1 l l' b hc.1.2 hc.2 hb ρ m us vs cu cv
          refine ⟨_, ?_, rfl⟩
          cases op <;> simp only [isEq, Option.some.injEq, reduceCtorEq] at he <;> subst he
          · rw [run_bind', (hF w ox oy).1]
            show (do pure (.bool (← Op.equal T (.agg us.toArray) (.agg vs.toArray))) : Sem Value).run P w = _
            rw [run_bind', (hF w ox oy).2]; rfl
          · rw [run_bind', show eqGuard .neq T ox oy (.agg us.toArray) (.agg vs.toArray) = eqGuard .eql T ox oy (.agg us.toArray) (.agg vs.toArray) from rfl, (hF w ox oy).1]
            show (do pure (.bool (!(← Op.equal T (.agg us.toArray) (.agg vs.toArray)))) : Sem Value).run P w = _
            rw [run_bind', (hF w ox oy).2]; rfl
        · cases h
      · cases h
    · cases h
  · split at h
    · rename_i e i he hi
      split at h
      · rename_i b D hb
        simp only [Option.some.injEq, Prod.mk.injEq] at h; obtain ⟨rfl, rfl⟩ := h
        exact ⟨_, eqm_ok (hT T i hi) hb hC hu hv op e ox oy w he, rfl⟩
      · cases h
    · cases h

end Go.Fo
