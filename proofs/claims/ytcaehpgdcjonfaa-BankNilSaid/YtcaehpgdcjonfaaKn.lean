/- Appends to a slice of the function's own. -/
import Derived.Test.YtcaehpgdcjonfaaKm
namespace Go.Fo

theorem R_ocell {m : Mem} : ∀ (k : Kd) (x : k.T) (cs : List Value), k.R m x cs → ∀ v ∈ cs, ocell v = true
  | .int _, _, _, h, v, hv => by simp only [Kd.R] at h; subst h; simp at hv; subst hv; rfl
  | .bool, _, _, h, v, hv => by simp only [Kd.R] at h; subst h; simp at hv; subst hv; rfl
  | .str, _, _, h, v, hv => by simp only [Kd.R] at h; subst h; simp at hv; subst hv; rfl
  | .slice e, l, cs, h, v, hv => by
    obtain ⟨u, rfl, hs⟩ := h
    simp at hv; subst hv
    rcases hs with ⟨_, rfl, _⟩ | ⟨b, off, cap, cells, T', fr, rfl, _⟩ <;> rfl
  | .pair a b, x, cs, h, v, hv => by
    obtain ⟨c, d, rfl, h1, h2⟩ := h
    rcases List.mem_append.1 hv with hv | hv
    · exact R_ocell a _ _ h1 v hv
    · exact R_ocell b _ _ h2 v hv
  | .unit, _, _, h, v, hv => by simp only [Kd.R] at h; subst h; cases hv

theorem growBy_le (n : Nat) : ∀ (r c : Nat), c ≤ 2 * n → 256 ≤ c → Builtin.growBy n r c ≤ 2 * n ∨ Builtin.growBy n r c ≤ n + (n + 768) / 4
  | 0, c, h, _ => .inl h
  | r + 1, c, h, h2 => by
    unfold Builtin.growBy
    split
    · exact .inl h
    · rename_i hc
      rcases Nat.lt_or_ge (2 * n) (c + (c + 768) / 4) with h3 | h3
      · right
        have : ∀ (r c' : Nat), n ≤ c' → Builtin.growBy n r c' = c' := by
          intro r c' hc'
          cases r with
          | zero => rfl
          | succ r => unfold Builtin.growBy; rw [if_pos hc']
        rw [this _ _ (by omega)]
        have : (c + 768) / 4 ≤ (n + 768) / 4 := Nat.div_le_div_right (by omega)
        omega
      · exact growBy_le n r _ h3 (by omega)

theorem nextcap_le {n c : Nat} (h : c < n) : Builtin.nextslicecap n c ≤ 2 * n := by
  unfold Builtin.nextslicecap
  split
  · omega
  · split
    · omega
    · have := growBy_le n 4 c (by omega) (by omega)
      have h3 : (n + 768) / 4 ≤ n := by omega
      omega

/-- a source of cells: it reads as these, and they are a list's -/
structure Src (P : Program) (m : Mem) (k : Kd) (w : World) (ys : List k.T) (v : Value) (cs : List Value) : Prop where
  shape : ∃ a c, v = .slice a ys.length c
  read : ∀ n, (Builtin.firstCells k.n ys.length v).run P { w with drawn := n } = .ok cs.toArray { w with drawn := n }
  len : cs.length = ys.length * k.n
  el : ∀ (i : Nat) (h : i < ys.length), k.R m ys[i] ((cs.drop (i * k.n)).take k.n)

theorem src_cells {P : Program} {m : Mem} {k : Kd} {w : World} {ys : List k.T} {b off cap : Nat} {vs : List Value} {T : TypeId} {fr : Nat × Nat} (h : w.heap[b]? = some (.cells vs.toArray T fr)) (hl : off + ys.length * k.n ≤ vs.length)
    (he : ∀ (i : Nat) (h : i < ys.length), k.R m ys[i] ((vs.drop (off + i * k.n)).take k.n)) : Src P m k w ys (.slice (some ⟨b, off, none⟩) ys.length cap) ((vs.drop off).take (ys.length * k.n)) := by
  refine ⟨⟨_, _, rfl⟩, fun n => ?_, by simp; omega, fun i hi => ?_⟩
  · have := run_loadCells (P := P) (w := { w with drawn := n }) (off := off) (n := ys.length * k.n) h (by simpa using hl)
    simpa [Builtin.firstCells] using this
  · have := he i hi
    have hle : (i + 1) * k.n ≤ ys.length * k.n := Nat.mul_le_mul_right _ hi
    rw [Nat.add_mul, Nat.one_mul] at hle
    rw [List.drop_take, List.drop_drop, List.take_take, Nat.min_eq_left (by omega)]
    exact this

theorem srcM_ok {P : Program} {L : List (Nat × Option MObj)} {k : Kd} {x : MV} {ys : List k.T} (h : srcM L k x = some ys) {ρ : Nat → Hd} {m : Mem} {w : World} (hO : ∀ k o, getO L k = some o → osat ρ m w k o) (hM : ∀ b o, m b = some o → w.heap[b]? = some o)
    {v : Value} (hv : Cv ρ m x v) : ∃ cs, Src P m k w ys v cs := by
  have nilsrc : ∀ (a : Option Addr) (ys : List k.T), ys = [] → Src P m k w ys (.slice a 0 0) [] := by
    intro a ys e; subst e
    refine ⟨⟨_, _, rfl⟩, fun n => ?_, by simp, fun i hi => by simp at hi⟩
    cases a with
    | none => rfl
    | some a =>
      show (loadCells a (0 * k.n)).run P _ = _
      rw [Nat.zero_mul]; rfl
  unfold srcM at h
  split at h
  · simp only [Option.some.injEq] at h
    simp only [Cv] at hv; subst hv
    exact ⟨[], nilsrc _ _ h.symm⟩
  · rename_i e l
    split at h
    · rename_i he
      subst he
      simp only [Option.some.injEq] at h; subst h
      obtain ⟨u, hu, hs⟩ := hv
      simp only [List.cons.injEq, and_true] at hu; subst hu
      rcases hs with ⟨_, rfl, rfl⟩ | ⟨b, off, cap, cells, T, fr, rfl, g2, g3, g4, g5⟩
      · exact ⟨[], nilsrc _ _ rfl⟩
      · exact ⟨_, src_cells (vs := cells.toList) (by rw [Array.toArray_toList]; exact hM _ _ g3) (by simpa using g4) g5⟩
    · cases h
  · rename_i key
    split at h
    · rename_i e l hk
      split at h
      · rename_i he
        subst he
        simp only [Option.some.injEq] at h; subst h
        obtain ⟨g0, g1, g2⟩ := hO _ _ hk
        simp only [Cv] at hv; subst hv
        unfold Hd.hdr
        rcases g2 with ⟨hn, rfl⟩ | ⟨hn, hcap, vs, T, hb, hvl, hel⟩
        · rw [hn]; exact ⟨[], nilsrc _ _ rfl⟩
        · have hle : l.length * e.n ≤ (ρ key).cap * e.n := Nat.mul_le_mul_right _ hcap
          rw [hn, g0]; exact ⟨_, src_cells (off := 0) hb (by omega) (by simpa using hel)⟩
      · cases h
    · cases h
  · cases h

end Go.Fo
