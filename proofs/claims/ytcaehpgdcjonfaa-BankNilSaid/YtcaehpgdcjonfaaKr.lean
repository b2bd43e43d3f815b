/- Single operations over symbolic states. -/
import Derived.Test.YtcaehpgdcjonfaaKq
namespace Go.Fo

def addA (dst : Option Nat) (x : MV) (A : Nat → Option MV) : Nat → Option MV :=
  match dst with
  | some d => fun s => if d == s then some x else A s
  | none => A

theorem put_size (a : Act) (dst : Option Tmp) (v : Value) : (a.put dst v).tmps.size = a.tmps.size := by
  cases dst <;> simp [Act.put]
theorem put_defers (a : Act) (dst : Option Tmp) (v : Value) : (a.put dst v).defers = a.defers := by
  cases dst <;> rfl

/-- slots behind a put -/
theorem slots_put {ρ ρ' : Nat → Hd} {m m' : Mem} (hm : Mle m m') {A : Nat → Option MV} {a : Act} (h : ∀ s x, A s = some x → ∃ v, a.tmps[s]? = some v ∧ Cv ρ m x v) {dst : Option Nat} (hd : ∀ d, dst = some d → d < a.tmps.size) {x : MV} {v : Value} (hv : dst ≠ none → Cv ρ' m' x v)
    (hρ : ∀ s y, A s = some y → ∀ k, y.has k = true → ρ' k = ρ k) : ∀ s y, addA dst x A s = some y → ∃ u, (a.put dst v).tmps[s]? = some u ∧ Cv ρ' m' y u := by
  intro s y hy
  cases dst with
  | none =>
    obtain ⟨u, h1, h2⟩ := h s y hy
    exact ⟨u, h1, Cv.mono hm y u (hρ s y hy) h2⟩
  | some d =>
    simp only [addA] at hy
    have hlt := hd d rfl
    by_cases e : d = s
    · subst e
      simp at hy; subst hy
      exact ⟨v, by simp [Act.put, hlt], hv (by simp)⟩
    · rw [if_neg (by simpa using e)] at hy
      obtain ⟨u, h1, h2⟩ := h s y hy
      exact ⟨u, by simp [Act.put, Array.getElem?_setIfInBounds_ne e, h1], Cv.mono hm y u (hρ s y hy) h2⟩

/-- what the engine is told of the program -/
structure Env (P : Program) where
  tab : Nat → Option TI
  tok : ∀ t i, tab t = some i → TOK P t i
  eqf : ∀ t i, tab t = some i → i.eqf = true → EqF P t i

theorem pure_sat {P : Program} (E : Env P) {Γ : Gd} {N : Nat} {Av : List (Nat × MV)} {Lv : List (Nat × Option MObj)} {A : Nat → Option MV} {L : Nat → Option MObj} (hA : ∀ s x, get Av s = some x → A s = some x) (hL : ∀ k o, getO Lv k = some o → L k = some o)
    {o : Oper} {r : MV} {C : Prop} (h : pureD E.tab Av Lv none o.op = some (r, C)) (hC : C) (hd : ∀ d, o.dst = some d → d < N) {a : Act} {w : World} (hs : Sat Γ N A L a w) (Q : Exit → Act → World → Prop) :
    o.wp P a w (fun a' w' => Sat Γ N (addA o.dst r A) L a' w') Q := by
  obtain ⟨h1, h2, ρ, m, h3, h4, h5, h6⟩ := hs
  obtain ⟨v, hv, hc⟩ := pure_ok E.tok E.eqf (.inl rfl) h hC (ρ := ρ) (m := m) (a := a) (w := w) (fun s x hx => h3 s x (hA s x hx)) (fun k o hk => h4.obj k o (hL k o hk)) h4.mem
  unfold Oper.wp
  rw [hv]
  exact ⟨by rw [put_size]; exact h1, by rw [put_defers]; exact h2, ρ, m, slots_put (Mle.refl m) h3 (fun d e => h1 ▸ hd d e) (fun _ => hc) (fun _ _ _ _ _ => rfl), h4, h5, h6⟩

theorem heap_sat {P : Program} (E : Env P) {Γ : Gd} {N : Nat} {Av : List (Nat × MV)} {Lv : List (Nat × Option MObj)} {A : Nat → Option MV} {L : Nat → Option MObj} (hA : ∀ s x, get Av s = some x → A s = some x) (hL : ∀ k o, getO Lv k = some o → L k = some o)
    {o : Oper} {d : Nat} {mv : MV} {U : List (Nat × Option MObj)} {fr : Bool} {C : Prop} (h : heapD E.tab Av Lv none d o.op = some (mv, U, fr, C)) (hC : C) (hd : ∀ d, o.dst = some d → d < N) (hd' : fr = false → o.dst = none)
    (hk : fr = true → 1000 ≤ d) (hfr : fr = true → ∀ k o, L k = some o → k ≠ d → o.has d = false) (hAf : fr = true → ∀ s x, A s = some x → x.has d = false) {a : Act} {w : World} (hs : Sat Γ N A L a w) (Q : Exit → Act → World → Prop) :
    o.wp P a w (fun a' w' => Sat Γ N (addA o.dst mv A) (updO U L) a' w') Q := by
  obtain ⟨h1, h2, ρ, m, h3, h4, h5, h6⟩ := hs
  obtain ⟨nx, w', ρ', r1, r2, r3, r4, r5, r6⟩ := heap_ok E.tok (.inl rfl) h hC (X := Γ.X) (ρ := ρ) (m := m) (a := a) (w := w) (fun s x hx => h3 s x (hA s x hx)) hL h4 hfr (fun e s x hx => hAf e s x (hA s x hx))
  have hρ : ∀ s y, A s = some y → ∀ k, y.has k = true → ρ' k = ρ k := by
    intro s y hy k hk'
    cases fr with
    | false => rw [r6 rfl]
    | true => exact r5 k (fun e => by rw [e, hAf rfl s y hy] at hk'; cases hk')
  have fin : ∀ v, (o.dst ≠ none → Cv ρ' m mv v) → Sat Γ N (addA o.dst mv A) (updO U L) (a.put o.dst v) w' := fun v hv =>
    ⟨by rw [put_size]; exact h1, by rw [put_defers]; exact h2, ρ', m, slots_put (Mle.refl m) h3 (fun d e => h1 ▸ hd d e) hv hρ, r3, h5.trans r4, fun k hk' => by
      cases fr with
      | false => rw [r6 rfl]; exact h6 k hk'
      | true => rw [r5 k (fun e => by have := hk rfl; omega)]; exact h6 k hk'⟩
  unfold Oper.wp
  rw [r1]
  rcases r2 with ⟨v, rfl, hc⟩ | ⟨rfl, hf⟩
  · exact fin v (fun _ => hc)
  · exact fin undef (fun e => absurd (hd' hf) e)

/-- a guarded operation: its value is there where its guard is met -/
theorem guard_sat {P : Program} (E : Env P) {Γ : Gd} {N : Nat} {Av : List (Nat × MV)} {Lv : List (Nat × Option MObj)} {A : Nat → Option MV} {L : Nat → Option MObj} (hA : ∀ s x, get Av s = some x → A s = some x) (hL : ∀ k o, getO Lv k = some o → L k = some o)
    {ops : Array Oper} {o oj : Oper} {j dj d : Nat} {want g : Bool} (hgd : o.guard = some (j, want)) (hj : ops[j]? = some oj) (hdj : oj.dst = some dj)
    (hg : (∃ b, get Av dj = some (.bool b) ∧ g = (if want then b else !b)) ∨ ∃ t b, get Av dj = some (.cnd t (.bool b)) ∧ g = (t && (if want then b else !b)))
    {r : MV} {C : Prop} (h : pureD E.tab Av Lv (some g) o.op = some (r, C)) (hC : g = true → C) (hdst : o.dst = some d) (hd : d < N) {a : Act} {w : World} (hs : Sat Γ N A L a w) (Q : Exit → Act → World → Prop) (K : Act → World → Prop)
    (hK : ∀ a w, Sat Γ N (addA (some d) (.cnd g r) A) L a w → K a w) : if Region.wanted o (yielded ops a.tmps) then o.wp P a w K Q else K (a.put o.dst undef) w := by
  obtain ⟨h1, h2, ρ, m, h3, h4, h5, h6⟩ := hs
  have hwant : Region.wanted o (yielded ops a.tmps) = g := by
    unfold Region.wanted
    rw [hgd]
    simp only [yielded, hj, Option.bind_some, hdj]
    rcases hg with ⟨b, hb, rfl⟩ | ⟨t, b, hb, rfl⟩
    · obtain ⟨v, hv, hc⟩ := h3 dj _ (hA _ _ hb)
      simp only [Cv] at hc; subst hc
      rw [hv]; cases want <;> cases b <;> rfl
    · obtain ⟨v, hv, hc⟩ := h3 dj _ (hA _ _ hb)
      rw [hv]
      cases t with
      | true =>
        have := hc.1 rfl
        simp only [Cv] at this; subst this
        cases want <;> cases b <;> rfl
      | false =>
        have := hc.2 rfl; subst this
        cases want <;> cases b <;> rfl
  have fin : ∀ v, ((g = true → Cv ρ m r v) ∧ (g = false → v = .tuple #[])) → Sat Γ N (addA (some d) (.cnd g r) A) L (a.put (some d) v) w := fun v hv =>
    ⟨by rw [put_size]; exact h1, by rw [put_defers]; exact h2, ρ, m, slots_put (Mle.refl m) h3 (fun d' e => by cases e; rw [h1]; exact hd) (fun _ => hv) (fun _ _ _ _ _ => rfl), h4, h5, h6⟩
  rw [hwant, hdst]
  cases hgv : g with
  | true =>
    subst hgv
    simp only [if_true]
    obtain ⟨v, hv, hc⟩ := pure_ok E.tok E.eqf (.inr rfl) h (hC rfl) (ρ := ρ) (m := m) (a := a) (w := w) (fun s x hx => h3 s x (hA s x hx)) (fun k o hk => h4.obj k o (hL k o hk)) h4.mem
    unfold Oper.wp
    rw [hv]
    simp only [Oper.upon, hdst]
    exact hK _ _ (fin v ⟨fun _ => hc, fun e => (by cases e)⟩)
  | false =>
    subst hgv
    simp only [Bool.false_eq_true, if_false]
    exact hK _ _ (fin undef ⟨fun e => (by cases e), fun _ => rfl⟩)

end Go.Fo
