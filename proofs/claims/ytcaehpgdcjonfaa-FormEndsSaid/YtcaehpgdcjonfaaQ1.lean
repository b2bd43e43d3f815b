/- How structs of plain fields are held against each other. -/
import Derived.Test.YtcaehpgdcjonfaaK5
import Derived.Laws.StructEq
namespace Go.Fo

def kmatch : Option TypeDesc → MV → Bool
  | some (.int _), .int _ _ => true
  | some .bool, .bool _ => true
  | some .string, .str _ => true
  | _, _ => false
def eqfields (P : Program) : Nat → List Field → List MV → Bool
  | _, [], [] => true
  | o, f :: fs, z :: zs => decide (f.name ≠ "_") && (f.offset == o && (kmatch (P.underlying f.type) z && eqfields P (o + 1) fs zs))
  | _, _, _ => false
def eqfb (P : Program) (t : TypeId) (i : TI) : Bool :=
  match P.underlying t with
  | some (.struct fs) => eqfields P 0 fs.toList i.zero && (!P.stoodInHeld t && !P.eqGuardType P.depth t)
  | _ => false
theorem part_one {P : Program} {d : TypeDesc} {t : Nat} (h : P.underlying t = some d) (hd : isAggD d = false) {cs : Array Value} {o : Nat} {v : Value} (hv : cs[o]? = some v) (w : World) : (part t cs o).run P w = .ok v w := by
  unfold part
  rw [run_bind', run_isAgg h, hd]
  simp [hv]
theorem eqf_run {P : Program} {d : Nat} {ρ : Nat → Hd} {m : Mem} {U V : Array Value} {w : World} : ∀ (fs : List Field) (zs xs ys : List MV) (us vs : List Value) (o : Nat) (b : Bool), eqfields P o fs zs = true → shp zs xs = true → shp zs ys = true →
    CvL ρ m xs us → CvL ρ m ys vs → (∀ j v, us[j]? = some v → U[o + j]? = some v) → (∀ j v, vs[j]? = some v → V[o + j]? = some v) → (eqL xs ys = some b ∨ xs = [] ∧ ys = [] ∧ b = true) →
    (Op.eqFields (d + 1) U V fs).run P w = .ok b w
  | [], [], xs, ys, us, vs, o, b, _, hx, hy, _, _, _, _, hb => by
    cases xs with
    | nil =>
      cases ys with
      | nil => rcases hb with hb | ⟨_, _, rfl⟩
               · cases hb
               · rfl
      | cons y ys => cases hy
    | cons x xs => cases hx
  | [], _ :: _, _, _, _, _, _, _, h, _, _, _, _, _, _, _ => by cases h
  | _ :: _, [], _, _, _, _, _, _, h, _, _, _, _, _, _, _ => by cases h
  | f :: fs, z :: zs, xs, ys, us, vs, o, b, h, hx, hy, cx, cy, hu, hv, hb => by
    simp only [eqfields, Bool.and_eq_true, beq_iff_eq] at h
    obtain ⟨h1, h2, h3, h4⟩ := h
    have h1 := of_decide_eq_true h1
    cases xs with
    | nil => cases z <;> cases hx
    | cons x xs =>
    cases ys with
    | nil => cases z <;> cases hy
    | cons y ys =>
    cases us with
    | nil => exact absurd cx.length (by simp)
    | cons u us =>
    cases vs with
    | nil => exact absurd cy.length (by simp)
    | cons v vs =>
    have ha : ∃ a, eq1 x y = some a ∧ ∃ b', (eqL xs ys = some b' ∨ xs = [] ∧ ys = [] ∧ b' = true) ∧ b = (a && b') := by
      rcases hb with hb | ⟨e, _⟩
      · unfold eqL at hb
        split at hb
        · rename_i e1 e2; cases e1; cases e2; exact ⟨b, hb, true, .inr ⟨rfl, rfl, rfl⟩, by simp⟩
        · rename_i e1 e2; cases e1; cases e2
          split at hb
          · rename_i a b' e3 e4; cases hb; exact ⟨a, e3, b', .inl e4, rfl⟩
          · cases hb
        · cases hb
      · cases e
    obtain ⟨a, ha, b', hb', rfl⟩ := ha
    obtain ⟨_, _, e0, c1, c2⟩ := cx
    cases e0
    obtain ⟨_, _, e0, d1, d2⟩ := cy
    cases e0
    have hU : U[o]? = some u := hu 0 u rfl
    have hV : V[o]? = some v := hv 0 v rfl
    have ih : shp zs xs = true → shp zs ys = true → (Op.eqFields (d + 1) U V fs).run P w = .ok b' w := fun sx sy => eqf_run fs zs xs ys us vs (o + 1) b' h4 sx sy c2 d2
      (fun j v e => by rw [Nat.add_right_comm]; exact hu (j + 1) v e) (fun j v e => by rw [Nat.add_right_comm]; exact hv (j + 1) v e) hb'
    unfold Op.eqFields
    rw [if_pos h1, h2]
    have key : ∀ {dd : TypeDesc}, P.underlying f.type = some dd → isAggD dd = false → (Op.equalIn (d + 1) f.type u v).run P w = .ok a w → shp zs xs = true → shp zs ys = true →
        (do let a ← part f.type U o; let b ← part f.type V o; let r ← Op.equalIn (d + 1) f.type a b; if (!r) = true then pure false else Op.eqFields (d + 1) U V fs : Sem Bool).run P w = .ok (a && b') w := by
      intro dd e1 e2 e3 sx sy
      rw [run_bind', part_one e1 e2 hU]
      simp only
      rw [run_bind', part_one e1 e2 hV]
      simp only
      rw [run_bind', e3]
      simp only
      cases a
      · rfl
      · exact ih sx sy
    unfold kmatch at h3
    split at h3
    · rename_i k0 k n e
      cases x <;> first | (simp [shp] at hx; done) | skip
      cases y <;> first | (simp [shp] at hy; done) | skip
      simp only [shp, Bool.and_eq_true] at hx hy
      simp only [Cv] at c1 d1
      subst c1 d1
      simp only [eq1] at ha
      split at ha
      · rename_i ee
        cases ha; subst ee
        exact key e rfl (run_equalIn_int w d f.type _ _ _ _ e) hx.2 hy.2
      · cases ha
    · rename_i k e
      cases x <;> first | (simp [shp] at hx; done) | skip
      cases y <;> first | (simp [shp] at hy; done) | skip
      simp only [shp] at hx hy
      simp only [Cv] at c1 d1
      subst c1 d1
      simp only [eq1, Option.some.injEq] at ha
      subst ha
      exact key e rfl (run_equalIn_bool' w d f.type _ _ e) hx hy
    · rename_i k e
      cases x <;> first | (simp [shp] at hx; done) | skip
      cases y <;> first | (simp [shp] at hy; done) | skip
      simp only [shp] at hx hy
      simp only [Cv] at c1 d1
      subst c1 d1
      simp only [eq1, Option.some.injEq] at ha
      subst ha
      exact key e rfl (run_equalIn_string w d f.type _ _ e) hx hy
    · cases h3
theorem eqf_of {P : Program} {t : TypeId} {i : TI} (h : eqfb P t i = true) : EqF P t i := by
  intro xs ys b hx hy hb ρ m us vs cx cy w x y
  unfold eqfb at h
  split at h
  · rename_i fs e
    simp only [Bool.and_eq_true, Bool.not_eq_true'] at h
    obtain ⟨h1, h2, h3⟩ := h
    have hf : P.fieldsOf t = fs := by unfold Program.fieldsOf; rw [e]
    refine ⟨run_eqGuard_agg w .eql t x y _ _ h3, ?_⟩
    have : Op.equal t (.agg us.toArray) (.agg vs.toArray) = Op.equalIn 10000 t (.agg us.toArray) (.agg vs.toArray) := by simp [Op.equal, Op.maxDepth]
    rw [this, run_equalIn_agg w 9999 t _ _ (by rw [e, hf]) h2, hf]
    exact eqf_run (d := 9998) fs.toList i.zero xs ys us vs 0 b h1 hx hy cx cy (fun j v e => by simpa using e) (fun j v e => by simpa using e) (.inl hb)
  · cases h
end Go.Fo
