/- New blocks: boxes, variables, slice literals, makes. -/
import Derived.Test.YtcaehpgdcjonfaaKk
namespace Go.Fo

/-- a world with one block more -/
structure Nw (w w' : World) (o : Obj) : Prop where
  heap : w'.heap = w.heap.push o
  os : w'.os = w.os
  out : w'.output = w.output
  tape : w'.tape = w.tape

def setρ (ρ : Nat → Hd) (d : Nat) (h : Hd) : Nat → Hd := fun k => if k = d then h else ρ k

theorem Nw.hp {X : Nat → Prop} {ρ : Nat → Hd} {m : Mem} {L : Nat → Option MObj} {w w' : World} {arr : Obj} (hw : Nw w w' arr) (h : Hp X ρ m L w) {d : Nat} {hd : Hd} (hb : hd.blk = w.heap.size) {o : MObj}
    (hfr : ∀ k o, L k = some o → k ≠ d → o.has d = false) (ho : osat (setρ ρ d hd) m w' d o) : Hp X (setρ ρ d hd) m (updO [(d, some o)] L) w' ∧ Nx X m m w w' := by
  have hsz : w'.heap.size = w.heap.size + 1 := by rw [hw.heap, Array.size_push]
  have hun : ∀ b, b < w.heap.size → w'.heap[b]? = w.heap[b]? := fun b hb => by rw [hw.heap, Array.getElem?_push_lt hb]; rw [Array.getElem?_eq_getElem hb]
  refine ⟨?_, Mle.refl m, fun _ _ => rfl, fun b hX => hun b (h.lt b hX), by omega, hw.os, hw.out, hw.tape⟩
  rw [updO_one]
  refine h.turn d (some o) (fun b => b = w.heap.size) (fun k hk => by simp [setρ, hk]) (.inr fun k o' hk hne => hfr k o' hk hne) (fun b hlt _ => hun b hlt) (by omega) (fun b hlt e => by omega) (fun k o' b _ hk hf e => ?_) (fun o' ho' => ?_)
  · have := foot_lt h hk hf; omega
  · simp only [Option.some.injEq] at ho'; subst ho'
    refine ⟨ho, fun b hf => ?_⟩
    have hbs : b = w.heap.size := by have := hf.2; simp [setρ] at this; omega
    subst hbs
    refine ⟨?_, fun hX => ?_, fun k o' _ hk hf' => ?_⟩
    · cases hm : m w.heap.size with
      | none => rfl
      | some q => have := mem_lt h hm; omega
    · have := h.lt _ hX; omega
    · have := foot_lt h hk hf'; omega

theorem setρ_ne (ρ : Nat → Hd) (d : Nat) (h : Hd) {k : Nat} (hk : k ≠ d) : setρ ρ d h k = ρ k := by simp [setρ, hk]
theorem setρ_eq (ρ : Nat → Hd) (d : Nat) (h : Hd) : setρ ρ d h d = h := by simp [setρ]

/-- values carry over to a new key -/
theorem CvL.setρ {ρ : Nat → Hd} {m : Mem} {d : Nat} {h : Hd} {l : List MV} {vs : List Value} (hl : CvL ρ m l vs) (hf : MV.hasL d l = false) : CvL (setρ ρ d h) m l vs :=
  CvL.mono (Mle.refl m) l vs (fun k hk => by refine setρ_ne ρ d h (fun e => ?_); subst e; rw [hf] at hk; cases hk) hl

theorem run_newRow {P : Program} (T : TypeId) (cells : Array Value) (w : World) : ∃ w', (newRow T cells).run P w = .ok ⟨w.heap.size, 0, none⟩ w' ∧ Nw w w' (.cells cells T (0, 0)) :=
  ⟨{ w with heap := w.heap.push (.cells cells T (0, 0)) }, rfl, rfl, rfl, rfl, rfl⟩

theorem new_cells_ok {P : Program} {X : Nat → Prop} {ρ : Nat → Hd} {m : Mem} {L : Nat → Option MObj} {w : World} (h : Hp X ρ m L w) {d : Nat} (hfr : ∀ k o, L k = some o → k ≠ d → o.has d = false) {cs : List MV} (hd : MV.hasL d cs = false)
    {vs : Array Value} (hv : CvL ρ m cs vs.toList) (T : TypeId) (s : Sem Value) (hs : ∀ w', (newRow T vs).run P w = .ok ⟨w.heap.size, 0, none⟩ w' → s.run P w = .ok (.pointer (some ⟨w.heap.size, 0, none⟩)) w') :
    HRes P X ρ m L w d (do pure (.value (← s))) (.p d 0) [(d, some (.cells cs))] true := by
  obtain ⟨w', h1, h2⟩ := run_newRow (P := P) T vs w
  refine ⟨_, w', setρ ρ d ⟨w.heap.size, 0, 0, false, 0⟩, ?_, .inl ⟨.pointer (some ⟨w.heap.size, 0, none⟩), rfl, by simp only [Cv, setρ_eq]⟩, ?_⟩
  · rw [run_bind', hs w' h1]; rfl
  · have ho : osat (setρ ρ d ⟨w.heap.size, 0, 0, false, 0⟩) m w' d (.cells cs) := by
      refine ⟨by rw [setρ_eq], vs.toList, T, ?_, hv.setρ hd⟩
      rw [setρ_eq, h2.heap]; simp
    obtain ⟨g1, g2⟩ := h2.hp h (hd := ⟨w.heap.size, 0, 0, false, 0⟩) rfl hfr ho
    exact ⟨g1, g2, fun k hk => setρ_ne _ _ _ hk, fun e => by cases e⟩

theorem new_rows_ok {P : Program} {X : Nat → Prop} {ρ : Nat → Hd} {m : Mem} {L : Nat → Option MObj} {w w' : World} (h : Hp X ρ m L w) {d : Nat} (hfr : ∀ k o, L k = some o → k ≠ d → o.has d = false) {k : Kd} {xs : List k.T}
    {vs : List Value} {T : TypeId} {cap : Nat} (hw : Nw w w' (.cells vs.toArray T (0, 0))) (hcap : xs.length ≤ cap) (hlen : vs.length = cap * k.n) (hel : ∀ (i : Nat) (hi : i < xs.length), k.R m xs[i] ((vs.drop (i * k.n)).take k.n))
    (s : Sem Next) (hs : s.run P w = .ok (.value (.slice (some ⟨w.heap.size, 0, none⟩) xs.length cap)) w') :
    HRes P X ρ m L w d s (.sl d) [(d, some (.rows k xs))] true := by
  refine ⟨_, w', setρ ρ d ⟨w.heap.size, xs.length, cap, false, k.n⟩, hs, .inl ⟨_, rfl, by simp only [Cv, setρ_eq]; rfl⟩, ?_⟩
  have ho : osat (setρ ρ d ⟨w.heap.size, xs.length, cap, false, k.n⟩) m w' d (.rows k xs) := by
    refine ⟨by rw [setρ_eq], by rw [setρ_eq], .inr ⟨by rw [setρ_eq], by rw [setρ_eq]; exact hcap, vs, T, ?_, by rw [setρ_eq]; exact hlen, hel⟩⟩
    rw [setρ_eq, hw.heap]; simp
  obtain ⟨g1, g2⟩ := hw.hp h (hd := ⟨w.heap.size, xs.length, cap, false, k.n⟩) rfl hfr ho
  exact ⟨g1, g2, fun k hk => setρ_ne _ _ _ hk, fun e => by cases e⟩

/-- rows of one kind, end to end -/
theorem rows_at {m : Mem} {k : Kd} : ∀ {xs : List k.T} {css : List (List Value)}, xs.length = css.length → (∀ (i : Nat) (h1 : i < xs.length) (h2 : i < css.length), k.R m xs[i] css[i]) → ∀ (rest : List Value),
    css.flatten.length = xs.length * k.n ∧ ∀ (i : Nat) (hi : i < xs.length), k.R m xs[i] (((css.flatten ++ rest).drop (i * k.n)).take k.n)
  | [], [], _, _, _ => ⟨by simp, fun i hi => by simp at hi⟩
  | [], _ :: _, h, _, _ => by simp at h
  | _ :: _, [], h, _, _ => by simp at h
  | x :: xs, c :: css, h, hr, rest => by
    have h0 := hr 0 (by simp) (by simp)
    simp only [List.getElem_cons_zero] at h0
    have hc := Kd.R.len _ _ _ h0
    obtain ⟨g1, g2⟩ := rows_at (xs := xs) (css := css) (by simpa using h) (fun i h1 h2 => by have := hr (i + 1) (by simpa using h1) (by simpa using h2); simpa using this) rest
    refine ⟨?_, fun i hi => ?_⟩
    · simp only [List.flatten_cons, List.length_append, List.length_cons, g1, hc, Nat.add_mul, Nat.one_mul]; omega
    · cases i with
      | zero =>
        simp only [List.getElem_cons_zero, Nat.zero_mul, List.drop_zero, List.flatten_cons, List.append_assoc]
        rw [List.take_append_of_le_length (by omega), List.take_of_length_le (by omega)]; exact h0
      | succ i =>
        have hi' : i < xs.length := by simpa using hi
        have := g2 i hi'
        simp only [List.getElem_cons_succ, List.flatten_cons, List.append_assoc]
        rw [List.drop_append, List.drop_of_length_le (by rw [hc, Nat.add_mul, Nat.one_mul]; omega), List.nil_append, hc, show (i + 1) * k.n - k.n = i * k.n by rw [Nat.add_mul, Nat.one_mul]; omega]
        exact this

theorem rows_repl {m : Mem} {k : Kd} {x : k.T} {cs : List Value} (h : k.R m x cs) (n : Nat) : ∀ (i : Nat) (_ : i < n), k.R m x ((((List.replicate n cs).flatten).drop (i * k.n)).take k.n) := by
  intro i hi
  have := (rows_at (m := m) (k := k) (xs := List.replicate n x) (css := List.replicate n cs) (by simp) (fun i h1 h2 => by simpa using h) []).2 i (by simpa using hi)
  simpa using this

end Go.Fo
