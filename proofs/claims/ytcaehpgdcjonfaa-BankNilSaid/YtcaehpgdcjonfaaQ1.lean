/- How structs of plain fields are held against each other. -/
import Derived.Test.YtcaehpgdcjonfaaK5
import Derived.Laws.StructEq
namespace Go.Fo

def kmatch : Option TypeDesc → MV → Bool
  | some (.int _), .int _ _ => true
  | some .bool, .bool _ => true
  | some .string, .str _ => true
  | _, _ => false
def szF (P : Program) (t : TypeId) : Nat := match P.info? t with | some j => j.size | none => 0
def eqgo (P : Program) (rec : List Field → List MV → Bool) : Nat → List Field → List MV → Bool
  | _, [], [] => true
  | _, [], _ :: _ => false
  | o, f :: fs, zs => decide (f.name ≠ "_") && (f.offset == o && (match P.underlying f.type with
      | some (.struct gs) => sizeb P f.type (szF P f.type) && (decide (1 ≤ szF P f.type) && (decide (szF P f.type ≤ zs.length) && (!P.stoodInHeld f.type && (rec gs.toList (zs.take (szF P f.type)) && eqgo P rec (o + szF P f.type) fs (zs.drop (szF P f.type))))))
      | u => (match zs with
        | z :: zs' => kmatch u z && eqgo P rec (o + 1) fs zs'
        | [] => false)))
def eqfields (P : Program) : Nat → List Field → List MV → Bool
  | 0 => fun _ _ => false
  | n + 1 => eqgo P (eqfields P n) 0
def eqfb (P : Program) (t : TypeId) (i : TI) : Bool :=
  match P.underlying t with
  | some (.struct fs) => eqfields P 4 fs.toList i.zero && (!P.stoodInHeld t && !P.eqGuardType P.depth t)
  | _ => false
theorem part_one {P : Program} {d : TypeDesc} {t : Nat} (h : P.underlying t = some d) (hd : isAggD d = false) {cs : Array Value} {o : Nat} {v : Value} (hv : cs[o]? = some v) (w : World) : (part t cs o).run P w = .ok v w := by
  unfold part
  rw [run_bind', run_isAgg h, hd]
  simp [hv]
theorem part_agg {P : Program} {gs : Array Field} {t s : Nat} (h : P.underlying t = some (.struct gs)) (hs : sizeb P t s = true) {cs : Array Value} {o : Nat} (w : World) : (part t cs o).run P w = .ok (.agg (cs.extract o (o + s))) w := by
  unfold part
  obtain ⟨j, hj, hjs⟩ := sizeb_ok hs
  rw [run_bind', run_isAgg h]
  simp only [isAggD, if_true]
  rw [run_bind', run_sizeOf hj, hjs]; rfl
theorem shp_len : ∀ {zs xs : List MV}, shp zs xs = true → xs.length = zs.length
  | [], [], _ => rfl
  | [], _ :: _, h => by cases h
  | z :: zs, [], h => by cases z <;> cases h
  | z :: zs, x :: xs, h => by
    have : shp zs xs = true := by
      cases z <;> cases x <;> first | (simp [shp] at h; done) | (simp only [shp, Bool.and_eq_true] at h; exact h.2) | exact h
    simp [shp_len this]
theorem shp_tail {z x : MV} {zs xs : List MV} (h : shp (z :: zs) (x :: xs) = true) : shp zs xs = true ∧ shp [z] [x] = true := by
  cases z <;> cases x <;> first | (simp [shp] at h; done) | (simp only [shp, Bool.and_eq_true] at h ⊢; exact ⟨h.2, h.1, trivial⟩) | exact ⟨h, rfl⟩
theorem shp_cons {z x : MV} {zs xs : List MV} (h1 : shp [z] [x] = true) (h2 : shp zs xs = true) : shp (z :: zs) (x :: xs) = true := by
  cases z <;> cases x <;> first | (simp [shp] at h1; done) | (simp only [shp, Bool.and_eq_true] at h1 ⊢; exact ⟨h1.1, h2⟩) | exact h2
theorem shp_split : ∀ (s : Nat) {zs xs : List MV}, shp zs xs = true → shp (zs.take s) (xs.take s) = true ∧ shp (zs.drop s) (xs.drop s) = true
  | 0, zs, xs, h => ⟨by simp [shp], by simpa using h⟩
  | s + 1, [], [], _ => ⟨rfl, rfl⟩
  | s + 1, [], _ :: _, h => by cases h
  | s + 1, z :: zs, [], h => by cases z <;> cases h
  | s + 1, z :: zs, x :: xs, h => by
    obtain ⟨h1, h2⟩ := shp_tail h
    obtain ⟨g1, g2⟩ := shp_split s h1
    exact ⟨shp_cons h2 g1, g2⟩
def eqE (xs ys : List MV) (b : Bool) : Prop := eqL xs ys = some b ∨ xs = [] ∧ ys = [] ∧ b = true
theorem eqE_cons {x y : MV} {xs ys : List MV} {b : Bool} (h : eqE (x :: xs) (y :: ys) b) : ∃ a b', eq1 x y = some a ∧ eqE xs ys b' ∧ b = (a && b') := by
  rcases h with hb | ⟨e, _⟩
  · unfold eqL at hb
    split at hb
    · rename_i e1 e2; cases e1; cases e2; exact ⟨b, true, hb, .inr ⟨rfl, rfl, rfl⟩, by simp⟩
    · rename_i e1 e2; cases e1; cases e2
      split at hb
      · rename_i a b' e3 e4; cases hb; exact ⟨a, b', e3, .inl e4, rfl⟩
      · cases hb
    · cases hb
  · cases e
theorem eqE_mk {x y : MV} {xs ys : List MV} {a b : Bool} (h : eq1 x y = some a) (k : eqE xs ys b) : eqE (x :: xs) (y :: ys) (a && b) := by
  left
  rcases k with k | ⟨rfl, rfl, rfl⟩
  · cases xs with
    | nil => simp [eqL] at k
    | cons x' xs =>
      cases ys with
      | nil => simp [eqL] at k
      | cons y' ys => unfold eqL; rw [h, k]
  · simp [eqL, h]
theorem eqE_split : ∀ (s : Nat) {xs ys : List MV} {b : Bool}, xs.length = ys.length → eqE xs ys b → ∃ b1 b2, eqE (xs.take s) (ys.take s) b1 ∧ eqE (xs.drop s) (ys.drop s) b2 ∧ b = (b1 && b2)
  | 0, xs, ys, b, _, h => ⟨true, b, .inr ⟨rfl, rfl, rfl⟩, by simpa using h, rfl⟩
  | s + 1, [], [], b, _, h => by
    rcases h with h | ⟨_, _, rfl⟩
    · simp [eqL] at h
    · exact ⟨true, true, .inr ⟨rfl, rfl, rfl⟩, .inr ⟨rfl, rfl, rfl⟩, rfl⟩
  | s + 1, [], _ :: _, _, hl, _ => by simp at hl
  | s + 1, _ :: _, [], _, hl, _ => by simp at hl
  | s + 1, x :: xs, y :: ys, b, hl, h => by
    obtain ⟨a, b', h1, h2, rfl⟩ := eqE_cons h
    obtain ⟨b1, b2, g1, g2, rfl⟩ := eqE_split s (by simpa using hl) h2
    exact ⟨a && b1, b2, eqE_mk h1 g1, g2, by cases a <;> cases b1 <;> rfl⟩
theorem eqgo_run {P : Program} {d : Nat} {ρ : Nat → Hd} {m : Mem} {rec : List Field → List MV → Bool}
    (hrec : ∀ (gs : List Field) (zs xs ys : List MV) (us vs : List Value) (b : Bool) (w : World), rec gs zs = true → shp zs xs = true → shp zs ys = true → CvL ρ m xs us → CvL ρ m ys vs → eqE xs ys b → (Op.eqFields d us.toArray vs.toArray gs).run P w = .ok b w)
    {U V : Array Value} {w : World} : ∀ (fs : List Field) (zs xs ys : List MV) (us vs : List Value) (o : Nat) (b : Bool), eqgo P rec o fs zs = true → shp zs xs = true → shp zs ys = true →
    CvL ρ m xs us → CvL ρ m ys vs → U.toList.drop o = us → V.toList.drop o = vs → eqE xs ys b → (Op.eqFields (d + 1) U V fs).run P w = .ok b w
  | [], [], xs, ys, us, vs, o, b, _, hx, hy, _, _, _, _, hb => by
    cases xs with
    | nil =>
      cases ys with
      | nil => rcases hb with hb | ⟨_, _, rfl⟩
               · simp [eqL] at hb
               · rfl
      | cons y ys => cases hy
    | cons x xs => cases hx
  | [], _ :: _, _, _, _, _, _, _, h, _, _, _, _, _, _, _ => by cases h
  | f :: fs, zs, xs, ys, us, vs, o, b, h, hx, hy, cx, cy, hu, hv, hb => by
    unfold eqgo at h
    simp only [Bool.and_eq_true, beq_iff_eq] at h
    obtain ⟨h1, h2, h3⟩ := h
    have h1 := of_decide_eq_true h1
    unfold Op.eqFields
    rw [if_pos h1, h2]
    have go : ∀ {a b' : Bool} {u v : Value}, (part f.type U o).run P w = .ok u w → (part f.type V o).run P w = .ok v w → (Op.equalIn (d + 1) f.type u v).run P w = .ok a w → (Op.eqFields (d + 1) U V fs).run P w = .ok b' w →
        (do let a ← part f.type U o; let b ← part f.type V o; let r ← Op.equalIn (d + 1) f.type a b; if (!r) = true then pure false else Op.eqFields (d + 1) U V fs : Sem Bool).run P w = .ok (a && b') w := by
      intro a b' u v e1 e2 e3 e4
      rw [run_bind', e1]; simp only
      rw [run_bind', e2]; simp only
      rw [run_bind', e3]; simp only
      cases a
      · rfl
      · exact e4
    split at h3
    · rename_i gs e
      simp only [Bool.and_eq_true, decide_eq_true_eq, Bool.not_eq_true'] at h3
      obtain ⟨s1, s2, s3, s4, s5, s6⟩ := h3
      generalize hs : szF P f.type = s at *
      have lx := shp_len hx
      have ly := shp_len hy
      obtain ⟨b1, b2, g1, g2, rfl⟩ := eqE_split s (by omega) hb
      obtain ⟨x1, x2⟩ := shp_split s hx
      obtain ⟨y1, y2⟩ := shp_split s hy
      have hgf : P.fieldsOf f.type = gs := by unfold Program.fieldsOf; rw [e]
      have hU : (U.extract o (o + s)) = (us.take s).toArray := by
        apply Array.ext'
        rw [← hu]; simp [List.take_drop]
      have hV : (V.extract o (o + s)) = (vs.take s).toArray := by
        apply Array.ext'
        rw [← hv]; simp [List.take_drop]
      refine go (part_agg e s1 w) (part_agg e s1 w) ?_ (eqgo_run hrec fs _ _ _ (us.drop s) (vs.drop s) (o + s) b2 s6 x2 y2 (cx.drop s) (cy.drop s) (by rw [← hu, List.drop_drop]) (by rw [← hv, List.drop_drop]) g2)
      rw [run_equalIn_agg w d f.type _ _ (by rw [e, hgf]) s4, hgf, hU, hV]
      exact hrec gs.toList _ _ _ _ _ b1 w s5 x1 y1 (cx.take s) (cy.take s) g1
    · cases zs with
      | nil => cases h3
      | cons z zs' =>
        replace h3 : (kmatch (P.underlying f.type) z && eqgo P rec (o + 1) fs zs') = true := h3
        simp only [Bool.and_eq_true] at h3
        obtain ⟨h3, h4⟩ := h3
        cases xs with
        | nil => exact absurd (shp_len hx) (by simp)
        | cons x xs =>
        cases ys with
        | nil => exact absurd (shp_len hy) (by simp)
        | cons y ys =>
        obtain ⟨u, us', e0, c1, c2⟩ := cx
        obtain ⟨v, vs', e0', d1, d2⟩ := cy
        subst e0 e0'
        obtain ⟨a, b', ha, hb', rfl⟩ := eqE_cons hb
        have sx := (shp_tail hx).1
        have sy := (shp_tail hy).1
        have hU : U[o]? = some u := by
          have : (U.toList.drop o)[0]? = some u := by rw [hu]; rfl
          rw [List.getElem?_drop, Nat.add_zero] at this; simpa using this
        have hV : V[o]? = some v := by
          have : (V.toList.drop o)[0]? = some v := by rw [hv]; rfl
          rw [List.getElem?_drop, Nat.add_zero] at this; simpa using this
        have ih := eqgo_run hrec fs zs' xs ys us' vs' (o + 1) b' (U := U) (V := V) (w := w) h4 sx sy c2 d2 (by rw [← List.drop_drop, hu]; rfl) (by rw [← List.drop_drop, hv]; rfl) hb'
        unfold kmatch at h3
        split at h3
        · rename_i k0 k n e
          cases x <;> first | (simp [shp] at hx; done) | skip
          cases y <;> first | (simp [shp] at hy; done) | skip
          simp only [Cv] at c1 d1
          subst c1 d1
          simp only [eq1] at ha
          split at ha
          · rename_i ee
            cases ha; subst ee
            exact go (part_one e rfl hU w) (part_one e rfl hV w) (run_equalIn_int w d f.type _ _ _ _ e) ih
          · cases ha
        · rename_i k e
          cases x <;> first | (simp [shp] at hx; done) | skip
          cases y <;> first | (simp [shp] at hy; done) | skip
          simp only [Cv] at c1 d1
          subst c1 d1
          simp only [eq1, Option.some.injEq] at ha
          subst ha
          exact go (part_one e rfl hU w) (part_one e rfl hV w) (run_equalIn_bool' w d f.type _ _ e) ih
        · rename_i k e
          cases x <;> first | (simp [shp] at hx; done) | skip
          cases y <;> first | (simp [shp] at hy; done) | skip
          simp only [Cv] at c1 d1
          subst c1 d1
          simp only [eq1, Option.some.injEq] at ha
          subst ha
          exact go (part_one e rfl hU w) (part_one e rfl hV w) (run_equalIn_string w d f.type _ _ e) ih
        · cases h3
theorem eqfields_run {P : Program} {ρ : Nat → Hd} {m : Mem} : ∀ (n d : Nat), n ≤ d → ∀ (gs : List Field) (zs xs ys : List MV) (us vs : List Value) (b : Bool) (w : World), eqfields P n gs zs = true → shp zs xs = true → shp zs ys = true → CvL ρ m xs us → CvL ρ m ys vs → eqE xs ys b →
    (Op.eqFields d us.toArray vs.toArray gs).run P w = .ok b w
  | 0, _, _, _, _, _, _, _, _, _, _, h, _, _, _, _, _ => by cases h
  | n + 1, 0, h, _, _, _, _, _, _, _, _, _, _, _, _, _, _ => by omega
  | n + 1, d + 1, hd, gs, zs, xs, ys, us, vs, b, w, h, hx, hy, cx, cy, hb =>
    eqgo_run (eqfields_run n d (by omega)) gs zs xs ys us vs 0 b h hx hy cx cy (by simp) (by simp) hb
theorem eqf_of {P : Program} {t : TypeId} {i : TI} (h : eqfb P t i = true) : EqF P t i := by
  intro xs ys b hx hy hb ρ m us vs cx cy w x y
  unfold eqfb at h
  split at h
  · rename_i fs e
    simp only [Bool.and_eq_true, Bool.not_eq_true'] at h
    obtain ⟨h1, h2, h3⟩ := h
    have hf : P.fieldsOf t = fs := by unfold Program.fieldsOf; rw [e]
    refine ⟨run_eqGuard_agg w .eql t x y _ _ h3, ?_⟩
    have : Op.equal t (.agg us.toArray) (.agg vs.toArray) = Op.equalIn 10000 t (.agg us.toArray) (.agg vs.toArray) := by simp [Op.equal, Op.maxDepth]
    rw [this, run_equalIn_agg w 9999 t _ _ (by rw [e, hf]) h2, hf]
    exact eqfields_run 4 9999 (by omega) fs.toList i.zero xs ys us vs b w h1 hx hy cx cy (.inl hb)
  · cases h
end Go.Fo
