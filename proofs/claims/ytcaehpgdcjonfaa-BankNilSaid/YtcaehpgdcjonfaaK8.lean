/- What is read at the outset, as data of a kind. -/
import Derived.Test.YtcaehpgdcjonfaaK7
namespace Go.Fo

/-- numbers in their range, texts and lists of a length that a machine can have -/
def Kd.wf : (k : Kd) → k.T → Prop
  | .int k, x => (Lit.int k x).wf = true
  | .bool, _ => True
  | .str, s => s.size ≤ maxLen
  | .slice e, l => l.length ≤ maxLen ∧ ∀ x ∈ l, e.wf x
  | .pair a b, x => a.wf x.1 ∧ b.wf x.2
  | .unit, _ => True

/-- fields, one behind the other from 'off' on, are of this kind -/
def fieldsKB (P : Program) (kd : Kd → TypeId → Bool) : Nat → Kd → List Field → Bool
  | off, k, [f] => f.offset == off && kd k f.type && P.cellsOf f.type == k.n
  | off, .pair a b, f :: fs => f.offset == off && kd a f.type && P.cellsOf f.type == a.n && fieldsKB P kd (off + a.n) b fs
  | _, _, _ => false
/-- a type is of this kind -/
def kdB (P : Program) : Nat → Kd → TypeId → Bool
  | 0, _, _ => false
  | n + 1, k, t => match P.underlying t with
    | some (.int i) => decide (k = .int i)
    | some .bool => decide (k = .bool)
    | some .string => decide (k = .str)
    | some (.slice u) => (match k with | .slice e => kdB P n e u && P.cellsOf u == e.n && decide (1 ≤ e.n) | _ => false)
    | some (.struct fs) => P.cellsOf t == k.n && fieldsKB P (kdB P n) 0 k fs.toList
    | _ => false

def snap (W : World) : Mem := fun b => if b < W.heap.size then W.heap[b]? else none

theorem mapM_at {α β : Type} {f : α → Option β} : ∀ {l : List α} {r : List β}, l.mapM f = some r → r.length = l.length ∧ ∀ (i : Nat) (x : α), l[i]? = some x → ∃ y, r[i]? = some y ∧ f x = some y
  | [], r, h => by simp at h; subst h; exact ⟨rfl, fun i x hx => by simp at hx⟩
  | a :: l, r, h => by
    rw [List.mapM_cons] at h
    cases ha : f a with
    | none => simp [ha] at h
    | some b =>
      cases hl : l.mapM f with
      | none => simp [ha, hl] at h
      | some bs =>
        simp [ha, hl] at h
        subst h
        obtain ⟨h1, h2⟩ := mapM_at hl
        refine ⟨by simp [h1], fun i x hx => ?_⟩
        cases i with
        | zero => simp at hx; subst hx; exact ⟨b, rfl, ha⟩
        | succ i => exact h2 i x (by simpa using hx)

section
variable {H : Type} {enc : TypeId × Value → H} {P : Program} {W : World}

theorem fields_R {m : Mem} {kd : Kd → TypeId → Bool} {rd : TypeId → List Value → Prop} (hrd : ∀ k t cs, kd k t = true → rd t cs → ∃ y : k.T, k.R m y cs ∧ k.wf y) {cs : List Value} :
    ∀ {fs : List Field} {off : Nat} {k : Kd}, fieldsKB P kd off k fs = true → (∀ f ∈ fs, rd f.type ((cs.drop f.offset).take (P.cellsOf f.type))) → cs.length = off + k.n → ∃ y : k.T, k.R m y (cs.drop off) ∧ k.wf y
  | [], off, k, h, _, _ => by cases k <;> simp [fieldsKB] at h
  | [f], off, k, h, hf, hl => by
    simp only [fieldsKB, Bool.and_eq_true, beq_iff_eq] at h
    obtain ⟨⟨h1, h2⟩, h3⟩ := h
    have := hf f (by simp)
    rw [h1, h3, List.take_of_length_le (by simp; omega)] at this
    exact hrd k _ _ h2 this
  | f :: g :: fs, off, k, h, hf, hl => by
    cases k with
    | pair a b =>
      simp only [fieldsKB, Bool.and_eq_true, beq_iff_eq] at h
      obtain ⟨⟨⟨h1, h2⟩, h3⟩, h4⟩ := h
      have := hf f (by simp)
      rw [h1, h3] at this
      obtain ⟨y, hy, wy⟩ := hrd a _ _ h2 this
      obtain ⟨z, hz, wz⟩ := fields_R hrd (fs := g :: fs) h4 (fun f' hf' => hf f' (by simp at hf' ⊢; exact .inr hf')) (by simp only [Kd.n] at hl; omega)
      refine ⟨(y, z), ⟨(cs.drop off).take a.n, cs.drop (off + a.n), ?_, hy, hz⟩, wy, wz⟩
      rw [← List.drop_drop, List.take_append_drop]
    | _ => simp [fieldsKB] at h

theorem cell_snap {b off : Nat} {s : Option Nat} {v : Value} (h : W.cell? ⟨b, off, s⟩ = some v) : s = none ∧ ∃ cells T fr, snap W b = some (.cells cells T fr) ∧ cells[off]? = some v := by
  unfold World.cell? at h
  simp only at h
  split at h
  · rename_i c T fr hb
    split at h
    · cases h
    · rename_i hs
      refine ⟨by cases s <;> simp_all, c, T, fr, ?_, h⟩
      unfold snap
      rw [if_pos (by exact (Array.getElem?_eq_some_iff.1 hb).1), hb]
  · cases h

theorem cells_snap {a : Addr} {n : Nat} {cs : List Value} (h : W.cells? 0 a n = some cs) : cs.length = n ∧ ∀ i, i < n → ∃ v, cs[i]? = some v ∧ W.cell? (a.add i) = some v := by
  unfold World.cells? at h
  rw [if_pos (Nat.zero_le _)] at h
  obtain ⟨h1, h2⟩ := mapM_at h
  refine ⟨by simpa using h1, fun i hi => ?_⟩
  obtain ⟨v, hv, he⟩ := h2 i i (by simp [hi])
  exact ⟨v, hv, he⟩

theorem slice_R {e : Kd} (he : 1 ≤ e.n) {a : Addr} {len cap : Nat} (hc : len ≤ cap) (hm : cap ≤ maxLen) (hel : ∀ i, i < cap → ∃ cs, W.cells? 0 (a.add (i * e.n)) e.n = some cs ∧ ∃ y : e.T, e.R (snap W) y cs ∧ e.wf y) :
    ∃ l : List e.T, SlR (snap W) e.n (e.R (snap W)) l (.slice (some a) len cap) ∧ (Kd.slice e).wf l := by
  cases cap with
  | zero =>
    have : len = 0 := by omega
    subst this
    exact ⟨[], .inl ⟨some a, rfl, rfl⟩, by simp, fun x hx => by simp at hx⟩
  | succ c =>
    classical
    obtain ⟨b, off, s⟩ := a
    have hs : s = none := by
      obtain ⟨cs, h1, _⟩ := hel 0 (by omega)
      obtain ⟨v, _, hv⟩ := (cells_snap h1).2 0 (by omega)
      have : W.cell? ⟨b, off, s⟩ = some v := by simpa [Addr.add] using hv
      exact (cell_snap this).1
    subst hs
    have add0 : ∀ x y : Nat, (⟨b, x, none⟩ : Addr).add y = ⟨b, x + y, none⟩ := fun x y => by
      unfold Addr.add
      split
      · rename_i e; subst e; rfl
      · rfl
    have hcell : ∀ i j, i < c + 1 → j < e.n → ∃ v, W.cell? ⟨b, off + (i * e.n + j), none⟩ = some v := fun i j hi hj => by
      obtain ⟨cs, h1, _⟩ := hel i hi
      obtain ⟨v, _, hv⟩ := (cells_snap h1).2 j hj
      exact ⟨v, by rw [add0, add0, Nat.add_assoc] at hv; exact hv⟩
    obtain ⟨v0, h0⟩ := hcell 0 0 (by omega) (by omega)
    obtain ⟨_, cells, T, fr, hb, _⟩ := cell_snap h0
    have hin : ∀ x, x < (c + 1) * e.n → ∃ v, cells[off + x]? = some v ∧ W.cell? ⟨b, off + x, none⟩ = some v := fun x hx => by
      obtain ⟨v, hv⟩ := hcell (x / e.n) (x % e.n) ((Nat.div_lt_iff_lt_mul (by omega)).2 hx) (Nat.mod_lt _ (by omega))
      have ex : x / e.n * e.n + x % e.n = x := by rw [Nat.mul_comm]; exact Nat.div_add_mod x e.n
      rw [ex] at hv
      obtain ⟨_, cells', T', fr', hb', hv'⟩ := cell_snap hv
      rw [hb] at hb'; cases hb'
      exact ⟨v, hv', hv⟩
    have hsize : off + (c + 1) * e.n ≤ cells.size := by
      have hp : 0 < (c + 1) * e.n := Nat.mul_pos (by omega) (by omega)
      obtain ⟨v, hv, _⟩ := hin ((c + 1) * e.n - 1) (by omega)
      have := (Array.getElem?_eq_some_iff.1 hv).1
      omega
    have hone : ∀ i, i < c + 1 → ∃ y : e.T, e.R (snap W) y ((cells.toList.drop (off + i * e.n)).take e.n) ∧ e.wf y := fun i hi => by
      obtain ⟨cs, h1, y, hy, wy⟩ := hel i hi
      obtain ⟨hl, hget⟩ := cells_snap h1
      have : cs = (cells.toList.drop (off + i * e.n)).take e.n := by
        apply List.ext_getElem?
        intro j
        by_cases hj : j < e.n
        · obtain ⟨v, hv, hw⟩ := hget j hj
          have hw' : W.cell? ⟨b, off + (i * e.n + j), none⟩ = some v := by rw [add0, add0, Nat.add_assoc] at hw; exact hw
          have hlt : i * e.n + j < (c + 1) * e.n := by
            have : (i + 1) * e.n ≤ (c + 1) * e.n := Nat.mul_le_mul_right _ hi
            rw [Nat.add_mul, Nat.one_mul] at this; omega
          obtain ⟨v', hv', hw2⟩ := hin _ hlt
          rw [hw'] at hw2; cases hw2
          rw [hv, List.getElem?_take, if_pos hj, List.getElem?_drop, Array.getElem?_toList, Nat.add_assoc, hv']
        · rw [List.getElem?_eq_none (by omega), List.getElem?_eq_none (by simp; omega)]
      exact ⟨y, this ▸ hy, wy⟩
    have hpick : ∀ i : Fin len, ∃ y : e.T, e.R (snap W) y ((cells.toList.drop (off + i.1 * e.n)).take e.n) ∧ e.wf y := fun i => hone i.1 (by omega)
    refine ⟨List.ofFn fun i : Fin len => (hpick i).choose, .inr ⟨b, off, c + 1, cells, T, fr, by simp, by simpa using hc, hb, ?_, fun i hi => ?_⟩, ?_, fun x hx => ?_⟩
    · have : len * e.n ≤ (c + 1) * e.n := Nat.mul_le_mul_right _ hc
      simp; omega
    · simp only [List.length_ofFn] at hi
      rw [List.getElem_ofFn]
      exact (hpick ⟨i, hi⟩).choose_spec.1
    · simp; omega
    · rw [List.mem_ofFn] at hx
      obtain ⟨i, rfl⟩ := hx
      exact (hpick i).choose_spec.2

theorem open_R : ∀ (n q : Nat) (k : Kd) (t : TypeId) (cs : List Value) (x : DataW H × List MemPlace), kdB P q k t = true → DataW.trod enc P W 0 (fun _ => true) true n t cs = some x → ∃ y : k.T, k.R (snap W) y cs ∧ k.wf y
  | 0, _, _, _, _, _, _, h => by simp [DataW.trod] at h
  | n + 1, 0, _, _, _, _, h, _ => by simp [kdB] at h
  | n + 1, q + 1, k, t, cs, x, hk, h => by
    unfold kdB at hk
    have hstep := h
    unfold DataW.trod at h
    split at hk
    · rename_i i hu
      have := of_decide_eq_true hk; subst this
      split at h <;> (rename_i hu2; rw [hu] at hu2) <;> first | cases hu2 | (cases h; done)
      split at h
      · rename_i hc
        simp only [Option.some.injEq] at h
        exact ⟨_, by rw [hc.1]; rfl, hc.2⟩
      · cases h
    · rename_i hu
      have := of_decide_eq_true hk; subst this
      split at h <;> (rename_i hu2; rw [hu] at hu2) <;> first | cases hu2 | (cases h; done)
      exact ⟨_, rfl, trivial⟩
    · rename_i hu
      have := of_decide_eq_true hk; subst this
      split at h <;> (rename_i hu2; rw [hu] at hu2) <;> first | cases hu2 | (cases h; done)
      split at h
      · rename_i hc; exact ⟨_, rfl, hc⟩
      · cases h
    · rename_i u hu
      split at hk
      · rename_i e
        simp only [Bool.and_eq_true, beq_iff_eq, decide_eq_true_eq] at hk
        obtain ⟨⟨k1, k2⟩, k3⟩ := hk
        split at h <;> (rename_i hu2; rw [hu] at hu2) <;> first | cases hu2 | (cases h; done)
        · exact ⟨[], ⟨_, rfl, .inl ⟨_, rfl, rfl⟩⟩, by simp, fun x hx => by simp at hx⟩
        · rename_i _ a len cap
          simp only at h
          split at h
          · rename_i hc
            rw [if_pos trivial] at h
            simp only [Option.map_eq_some_iff, Option.bind_eq_some_iff] at h
            obtain ⟨el, hel, rest, hrest, rfl⟩ := h
            have r1 := mapM_at hel
            have r2 := mapM_at hrest
            obtain ⟨l, hl, wl⟩ := slice_R (W := W) (e := e) k3 hc.2.1 hc.2.2 (a := a) (fun i hi => by
              have one : ∀ y, ((W.cells? 0 (a.add (i * P.cellsOf u)) (P.cellsOf u)).bind (DataW.trod enc P W 0 (fun _ => true) true n u)) = some y → ∃ cs, W.cells? 0 (a.add (i * e.n)) e.n = some cs ∧ ∃ y : e.T, e.R (snap W) y cs ∧ e.wf y := fun y hy => by
                obtain ⟨cs, h1, h2⟩ := Option.bind_eq_some_iff.1 hy
                rw [k2] at h1
                exact ⟨cs, h1, open_R n q e u cs y k1 h2⟩
              by_cases hlt : i < len
              · obtain ⟨y, _, hy⟩ := r1.2 i i (by simp [hlt])
                exact one y hy
              · obtain ⟨y, _, hy⟩ := r2.2 (i - len) (i - len) (by rw [List.getElem?_range (by omega)])
                rw [show len + (i - len) = i from by omega] at hy
                exact one y hy)
            exact ⟨l, ⟨_, rfl, hl⟩, wl⟩
          · cases h
      · cases hk
    · rename_i fs hu
      simp only [Bool.and_eq_true, beq_iff_eq] at hk
      split at h <;> (rename_i hu2; rw [hu] at hu2) <;> first | cases hu2 | (cases h; done)
      split at h
      · rename_i hc
        simp only [Option.map_eq_some_iff] at h
        obtain ⟨xs, hxs, rfl⟩ := h
        have r1 := mapM_at hxs
        obtain ⟨y, hy, wy⟩ := fields_R (P := P) (m := snap W) (kd := kdB P q) (rd := fun t cs => ∃ x, DataW.trod enc P W 0 (fun _ => true) true n t cs = some x) (fun k t cs h1 h2 => by
          obtain ⟨x, hx⟩ := h2
          exact open_R n q k t cs x h1 hx) hk.2 (cs := _) (fun f hf => by
            obtain ⟨i, hi⟩ := List.getElem?_of_mem hf
            obtain ⟨y, _, hy⟩ := r1.2 i f hi
            exact ⟨y, hy⟩) (by rw [hc, hk.1, Nat.zero_add])
        exact ⟨y, by simpa using hy, wy⟩
      · cases h
    · cases hk
end
end Go.Fo
