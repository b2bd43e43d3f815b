/- Memory that is written or made: what becomes of what is known of it. -/
import Derived.Test.YtcaehpgdcjonfaaKi
namespace Go.Fo

def updO (U : List (Nat × Option MObj)) (L : Nat → Option MObj) (k : Nat) : Option MObj :=
  match U with
  | [] => L k
  | (k', o) :: U' => if k' == k then o else updO U' L k
theorem getO_append (U L : List (Nat × Option MObj)) : getO (U ++ L) = updO U (getO L) := by
  induction U with
  | nil => rfl
  | cons q U ih =>
    obtain ⟨k', o⟩ := q
    funext k
    simp only [List.cons_append, getO, updO]
    rw [ih]

/-- one object turned, or a new one laid -/
theorem Hp.turn {X : Nat → Prop} {ρ ρ' : Nat → Hd} {m : Mem} {L : Nat → Option MObj} {w w' : World} (h : Hp X ρ m L w) (key : Nat) (oo : Option MObj) (D : Nat → Prop)
    (hρ : ∀ k, k ≠ key → ρ' k = ρ k) (hfr : ρ' key = ρ key ∨ ∀ k o, L k = some o → k ≠ key → o.has key = false)
    (hw : ∀ b, b < w.heap.size → ¬ D b → w'.heap[b]? = w.heap[b]?) (hsz : w.heap.size ≤ w'.heap.size)
    (hDm : ∀ b, b < w.heap.size → D b → m b = none) (hDk : ∀ k o b, k ≠ key → L k = some o → foot ρ k b → ¬ D b)
    (hnew : ∀ o, oo = some o → osat ρ' m w' key o ∧ ∀ b, foot ρ' key b → m b = none ∧ ¬ X b ∧ ∀ k o', k ≠ key → L k = some o' → ¬ foot ρ k b) :
    Hp X ρ' m (fun k => if key == k then oo else L k) w' := by
  have fk : ∀ k b, k ≠ key → (foot ρ' k b ↔ foot ρ k b) := fun k b hk => by unfold foot; rw [hρ k hk]
  have sel : ∀ k o, (if key == k then oo else L k) = some o → (k = key ∧ oo = some o) ∨ (k ≠ key ∧ L k = some o) := by
    intro k o hk
    by_cases e : key = k
    · subst e; simp at hk; exact .inl ⟨rfl, hk⟩
    · simp [e] at hk; exact .inr ⟨fun x => e x.symm, hk⟩
  refine ⟨fun b o hb => ?_, fun k o hk => ?_, fun k o k' o' b hk hk' hf hf' => ?_, fun k o b hk hf => ?_, fun k o b hk hf => ?_, fun b hb => Nat.lt_of_lt_of_le (h.lt b hb) hsz⟩
  · have hlt := mem_lt h hb
    rw [hw b hlt (fun hD => by rw [hDm b hlt hD] at hb; cases hb)]; exact h.mem b o hb
  · rcases sel k o hk with ⟨rfl, ho⟩ | ⟨hne, ho⟩
    · exact (hnew o ho).1
    · refine osat.mono (Mle.refl m) (fun d hd => ?_) (hρ k hne) (fun b hf => ?_) (h.obj k o ho)
      · by_cases e : d = key
        · subst e
          rcases hfr with hfr | hfr
          · exact hfr
          · rw [hfr k o ho hne] at hd; cases hd
        · exact hρ d e
      · exact hw b (foot_lt h ho hf) (hDk k o b hne ho hf)
  · rcases sel k o hk with ⟨rfl, ho⟩ | ⟨hne, ho⟩ <;> rcases sel k' o' hk' with ⟨rfl, ho'⟩ | ⟨hne', ho'⟩
    · rfl
    · exact absurd ((fk k' b hne').1 hf') (((hnew o ho).2 b hf).2.2 k' o' hne' ho')
    · exact absurd ((fk k b hne).1 hf) (((hnew o' ho').2 b hf').2.2 k o hne ho)
    · exact h.dj k o k' o' b ho ho' ((fk k b hne).1 hf) ((fk k' b hne').1 hf')
  · rcases sel k o hk with ⟨rfl, ho⟩ | ⟨hne, ho⟩
    · exact ((hnew o ho).2 b hf).1
    · exact h.djm k o b ho ((fk k b hne).1 hf)
  · rcases sel k o hk with ⟨rfl, ho⟩ | ⟨hne, ho⟩
    · exact ((hnew o ho).2 b hf).2.1
    · exact h.djX k o b ho ((fk k b hne).1 hf)

theorem Hp.weak {X : Nat → Prop} {ρ : Nat → Hd} {m : Mem} {L L' : Nat → Option MObj} {w : World} (h : Hp X ρ m L w) (hL : ∀ k o, L' k = some o → L k = some o) : Hp X ρ m L' w :=
  ⟨h.mem, fun k o hk => h.obj k o (hL k o hk), fun k o k' o' b hk hk' => h.dj k o k' o' b (hL _ _ hk) (hL _ _ hk'), fun k o b hk => h.djm k o b (hL _ _ hk), fun k o b hk => h.djX k o b (hL _ _ hk), h.lt⟩

/-- a value that lies in one cell -/
def ocell : Value → Bool
  | .agg _ => false
  | .tuple _ => false
  | _ => true
/-- a value of one cell -/
def cellm : MV → Bool
  | .agg _ => false
  | .tup _ => false
  | .cnd _ _ => false
  | .raw _ => false
  | .im (.slice _) _ => true
  | .im _ _ => false
  | _ => true
theorem cellm_ok {ρ : Nat → Hd} {m : Mem} {x : MV} {v : Value} (hc : cellm x = true) (h : Cv ρ m x v) : ocell v = true := by
  cases x with
  | agg l => simp [cellm] at hc
  | tup l => simp [cellm] at hc
  | cnd t y => simp [cellm] at hc
  | raw u => simp [cellm] at hc
  | im k y =>
    cases k with
    | slice e =>
      obtain ⟨z, hz, h2⟩ := h
      simp only [List.cons.injEq, and_true] at hz
      rcases h2 with ⟨_, h3, _⟩ | ⟨b, off, cap, cells, T', fr, h3, _⟩ <;> rw [hz, h3] <;> rfl
    | _ => simp [cellm] at hc
  | int k y => simp only [Cv] at h; rw [h]; rfl
  | bool y => simp only [Cv] at h; rw [h]; rfl
  | str y => simp only [Cv] at h; rw [h]; rfl
  | nilp => simp only [Cv] at h; rw [h]; rfl
  | nils => simp only [Cv] at h; rw [h]; rfl
  | nilf => simp only [Cv] at h; rw [h]; rfl
  | nili => simp only [Cv] at h; rw [h]; rfl
  | nilm => simp only [Cv] at h; rw [h]; rfl
  | p k o => simp only [Cv] at h; rw [h]; rfl
  | hd k o => simp only [Cv] at h; rw [h]; rfl
  | sv k o => simp only [Cv] at h; rw [h]; rfl
  | pf k o j => simp only [Cv] at h; rw [h]; rfl
  | pe k j o => simp only [Cv] at h; rw [h]; rfl
  | sl k => simp only [Cv] at h; rw [h]; unfold Hd.hdr; split <;> rfl
  | pim k y => obtain ⟨b, off, cells, T', fr, h1, _⟩ := h; rw [h1]; rfl
  | fn f l => obtain ⟨vs, h1, _⟩ := h; rw [h1]; rfl
  | ifc t y => obtain ⟨z, h1, _⟩ := h; rw [h1]; rfl

theorem cellms_ok {ρ : Nat → Hd} {m : Mem} : ∀ {l : List MV} {vs : List Value}, l.all cellm = true → CvL ρ m l vs → ∀ v ∈ vs, ocell v = true
  | [], vs, _, h, v, hv => by simp only [CvL] at h; subst h; cases hv
  | x :: l, vs, hc, ⟨u, us, h, hx, hl⟩, v, hv => by
    subst h
    simp only [List.all_cons, Bool.and_eq_true] at hc
    rcases List.mem_cons.1 hv with rfl | hv
    · exact cellm_ok hc.1 hx
    · exact cellms_ok hc.2 hl v hv

/-- what a stretch that writes one block leaves -/
structure Wr (w w' : World) (b : Nat) (o : Obj) : Prop where
  at_ : w'.heap[b]? = some o
  un : ∀ b', b' ≠ b → w'.heap[b']? = w.heap[b']?
  size : w'.heap.size = w.heap.size
  os : w'.os = w.os
  out : w'.output = w.output
  tape : w'.tape = w.tape

theorem run_store {P : Program} {w : World} {b off : Nat} {arr : Array Value} {T : TypeId} (h : w.heap[b]? = some (.cells arr T (0, 0))) (ho : off < arr.size) {v : Value} (hv : ocell v = true) :
    (store ⟨b, off, none⟩ v).run P w = .ok () (w.setCell ⟨b, off, none⟩ v) ∧ Wr w (w.setCell ⟨b, off, none⟩ v) b (.cells (arr.set off v ho) T (0, 0)) := by
  have hc : w.cell? ⟨b, off, none⟩ = some arr[off] := by rw [cell_of h]; simp [ho]
  have hf : w.frozen? ⟨b, off, none⟩ = false := by simp [World.frozen?, h]
  have hb : b < w.heap.size := (Array.getElem?_eq_some_iff.1 h).1
  refine ⟨?_, ?_, fun b' hb' => ?_, ?_, rfl, rfl, rfl⟩
  · cases v <;> simp only [ocell, reduceCtorEq] at hv <;> simp [store, Sem.run, hc, hf]
  · simp only [World.setCell, Array.getElem?_modify]
    rw [h]
    simp [Array.setIfInBounds, ho]
  · simp only [World.setCell, Array.getElem?_modify]
    rw [if_neg (fun e => hb' e.symm)]
  · simp [World.setCell]

theorem run_storeCells {P : Program} {b off : Nat} {T : TypeId} : ∀ (vs : List Value) (i : Nat) (w : World) (cs : List Value), w.heap[b]? = some (.cells cs.toArray T (0, 0)) → off + i + vs.length ≤ cs.length → (∀ v ∈ vs, ocell v = true) →
    ∃ w', (storeCells ⟨b, off, none⟩ vs i).run P w = .ok () w' ∧ Wr w w' b (.cells (cs.take (off + i) ++ (vs ++ cs.drop (off + i + vs.length))).toArray T (0, 0))
  | [], i, w, cs, h, _, _ => ⟨w, rfl, by simpa using h, fun _ _ => rfl, rfl, rfl, rfl, rfl⟩
  | v :: vs, i, w, cs, h, hl, hv => by
    simp only [List.length_cons] at hl
    have hlt : off + i < cs.toArray.size := by simp; omega
    obtain ⟨h1, h2⟩ := run_store (P := P) h hlt (hv v (by simp))
    obtain ⟨w', h3, h4⟩ := run_storeCells (P := P) (b := b) (off := off) (T := T) vs (i + 1) _ (cs.set (off + i) v) (by rw [h2.at_]; simp) (by simp; omega) (fun u hu => hv u (by simp [hu]))
    refine ⟨w', ?_, ?_⟩
    · unfold storeCells
      rw [add_at, run_bind', h1]; simp only
      exact h3
    · have e1 : (cs.set (off + i) v).take (off + (i + 1)) = cs.take (off + i) ++ [v] := by
        rw [show off + (i + 1) = off + i + 1 by omega, List.take_succ_eq_append_getElem (by simpa using hlt), List.getElem_set_self, List.take_set_of_le (Nat.le_refl _)]
      have e2 : (cs.set (off + i) v).drop (off + (i + 1) + vs.length) = cs.drop (off + i + (vs.length + 1)) := by
        rw [List.drop_set_of_lt (by omega)]; congr 1; omega
      have e3 : (cs.set (off + i) v).take (off + (i + 1)) ++ (vs ++ (cs.set (off + i) v).drop (off + (i + 1) + vs.length)) = cs.take (off + i) ++ (v :: vs ++ cs.drop (off + i + (v :: vs).length)) := by
        rw [e1, e2, List.append_assoc]; rfl
      rw [e3] at h4
      exact ⟨h4.at_, fun b' hb' => (h4.un b' hb').trans (h2.un b' hb'), h4.size.trans h2.size, h4.os.trans h2.os, h4.out.trans h2.out, h4.tape.trans h2.tape⟩

theorem run_storeAt {P : Program} {w : World} {b off : Nat} {cs : List Value} {T T' : TypeId} {i : TI} (ht : TOK P T i) (h : w.heap[b]? = some (.cells cs.toArray T' (0, 0))) {v : Value} (hn : v.cells.size = i.size) (hs : off + i.size ≤ cs.length) (hv : ∀ u ∈ v.cells.toList, ocell u = true) :
    ∃ w', (Instr.storeAt T (.pointer (some ⟨b, off, none⟩)) v).run P w = .ok () w' ∧ Wr w w' b (.cells (cs.take off ++ (v.cells.toList ++ cs.drop (off + i.size))).toArray T' (0, 0)) := by
  obtain ⟨j, z, hj, hsz, _⟩ := ht.info
  obtain ⟨w', h1, h2⟩ := run_storeCells (P := P) (off := off) v.cells.toList 0 w cs h (by simp [hn]; omega) hv
  refine ⟨w', ?_, ?_⟩
  · unfold Instr.storeAt
    rw [run_bind', show (Instr.sureAddr (.pointer (some ⟨b, off, none⟩))).run P w = .ok ⟨b, off, none⟩ w from rfl]
    simp only
    unfold storeVar
    rw [run_bind', run_sizeOf hj, hsz]
    simp only [hn, ne_eq, not_true_eq_false, if_false]
    exact h1
  · simpa [hn] using h2

/-- a cell of data turned -/
def Kd.upd1 : (k : Kd) → k.T → Nat → MV → Option k.T
  | .int k, _, f, v => match v with
    | .int k' y => if k' = k ∧ f = 0 then some y else none
    | _ => none
  | .bool, _, f, v => match v with
    | .bool y => if f = 0 then some y else none
    | _ => none
  | .str, _, f, v => match v with
    | .str y => if f = 0 then some y else none
    | _ => none
  | .slice e, _, f, v => match v with
    | .im (.slice e') l => if h : e' = e then (if f = 0 then some (h ▸ l) else none) else none
    | .nils => if f = 0 then some [] else none
    | _ => none
  | .pair a b, x, f, v => if f < a.n then (a.upd1 x.1 f v).map fun y => (y, x.2) else (b.upd1 x.2 (f - a.n) v).map fun y => (x.1, y)
  | .unit, _, _, _ => none

theorem upd1_ok {ρ : Nat → Hd} {m : Mem} {v : MV} {u : Value} (hv : Cv ρ m v u) : ∀ (k : Kd) (x y : k.T) (f : Nat) (cs : List Value), k.upd1 x f v = some y → k.R m x cs → f < k.n ∧ k.R m y (cs.set f u)
  | .int k, x, y, f, cs, h, hr => by
    simp only [Kd.upd1] at h
    split at h
    · split at h
      · rename_i hc; obtain ⟨rfl, rfl⟩ := hc
        simp only [Option.some.injEq] at h; subst h
        simp only [Cv] at hv; subst hv
        simp only [Kd.R] at hr; subst hr
        exact ⟨by simp [Kd.n], rfl⟩
      · cases h
    · cases h
  | .bool, x, y, f, cs, h, hr => by
    simp only [Kd.upd1] at h
    split at h
    · split at h
      · rename_i hc; subst hc
        simp only [Option.some.injEq] at h; subst h
        simp only [Cv] at hv; subst hv
        simp only [Kd.R] at hr; subst hr
        exact ⟨by simp [Kd.n], rfl⟩
      · cases h
    · cases h
  | .str, x, y, f, cs, h, hr => by
    simp only [Kd.upd1] at h
    split at h
    · split at h
      · rename_i hc; subst hc
        simp only [Option.some.injEq] at h; subst h
        simp only [Cv] at hv; subst hv
        simp only [Kd.R] at hr; subst hr
        exact ⟨by simp [Kd.n], rfl⟩
      · cases h
    · cases h
  | .slice e, x, y, f, cs, h, hr => by
    simp only [Kd.upd1] at h
    obtain ⟨v0, rfl, _⟩ := hr
    split at h
    · rename_i e' l
      split at h
      · rename_i he
        subst he
        split at h
        · rename_i hf; subst hf
          simp only [Option.some.injEq] at h; subst h
          exact ⟨by simp [Kd.n], hv⟩
        · cases h
      · cases h
    · split at h
      · rename_i hf; subst hf
        simp only [Option.some.injEq] at h; subst h
        simp only [Cv] at hv; subst hv
        exact ⟨by simp [Kd.n], _, rfl, .inl ⟨_, rfl, rfl⟩⟩
      · cases h
    · cases h
  | .pair a b, x, y, f, cs, h, hr => by
    obtain ⟨c, d, rfl, h1, h2⟩ := hr
    have lc := Kd.R.len _ _ _ h1
    simp only [Kd.upd1] at h
    split at h
    · rename_i hlt
      simp only [Option.map_eq_some_iff] at h
      obtain ⟨z, hz, rfl⟩ := h
      obtain ⟨g1, g2⟩ := upd1_ok hv a x.1 z f c hz h1
      refine ⟨by simp only [Kd.n]; omega, c.set f u, d, ?_, g2, h2⟩
      rw [List.set_append_left _ _ (by omega)]
    · rename_i hlt
      simp only [Option.map_eq_some_iff] at h
      obtain ⟨z, hz, rfl⟩ := h
      obtain ⟨g1, g2⟩ := upd1_ok hv b x.2 z (f - a.n) d hz h2
      refine ⟨by simp only [Kd.n]; omega, c, d.set (f - a.n) u, ?_, h1, g2⟩
      rw [List.set_append_right _ _ (by omega), lc]
  | .unit, x, y, f, cs, h, hr => by simp [Kd.upd1] at h

def Kd.updL (k : Kd) (x : k.T) (f : Nat) : List MV → Option k.T
  | [] => some x
  | v :: l => match k.upd1 x f v with
    | some y => k.updL y (f + 1) l
    | none => none

theorem updL_ok {ρ : Nat → Hd} {m : Mem} {k : Kd} : ∀ {l : List MV} {us : List Value}, CvL ρ m l us → ∀ (x y : k.T) (f : Nat) (cs : List Value), k.updL x f l = some y → k.R m x cs →
    (l = [] ∨ f + l.length ≤ k.n) ∧ k.R m y (cs.take f ++ (us ++ cs.drop (f + us.length)))
  | [], us, hl, x, y, f, cs, h, hr => by
    simp only [CvL] at hl; subst hl
    simp only [Kd.updL, Option.some.injEq] at h; subst h
    refine ⟨.inl rfl, ?_⟩
    simpa using hr
  | v :: l, us, ⟨u, vs, hu, hv, hl⟩, x, y, f, cs, h, hr => by
    subst hu
    unfold Kd.updL at h
    split at h
    · rename_i z hz
      obtain ⟨g1, g2⟩ := upd1_ok hv k x z f cs hz hr
      have hlen := Kd.R.len _ _ _ hr
      obtain ⟨g3, g4⟩ := updL_ok hl z y (f + 1) _ h g2
      refine ⟨.inr ?_, ?_⟩
      · rcases g3 with rfl | g3
        · simp; omega
        · simp only [List.length_cons]; omega
      · have e1 : (cs.set f u).take (f + 1) = cs.take f ++ [u] := by
          rw [List.take_succ_eq_append_getElem (by simp; omega), List.getElem_set_self, List.take_set_of_le (Nat.le_refl _)]
        have e2 : (cs.set f u).drop (f + 1 + vs.length) = cs.drop (f + (vs.length + 1)) := by
          rw [List.drop_set_of_lt (by omega)]; congr 1; omega
        rw [e1, e2, List.append_assoc] at g4
        exact g4
    · cases h

end Go.Fo
