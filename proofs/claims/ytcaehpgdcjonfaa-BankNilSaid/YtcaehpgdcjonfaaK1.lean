/- Ends passed on; slices that are written no more; nil slices that become one's own; keys anew. -/
import Derived.Test.YtcaehpgdcjonfaaKz
namespace Go.Fo

/-- a condition of going on -/
def gd {α : Type} (C : Prop) [Decidable C] (x : Option α) : Option α := if C then x else none
theorem gd_t {α : Type} {C : Prop} [Decidable C] {x : Option α} {r : α} (h : gd C x = some r) : C ∧ x = some r := by
  unfold gd at h
  split at h
  · rename_i hc; exact ⟨hc, h⟩
  · cases h
theorem gd_pos {α : Type} {C : Prop} [Decidable C] {x : Option α} (h : C) : gd C x = x := if_pos h
theorem bif_t {α : Type} {b : Bool} {x y : Option α} {r : α} (h : (bif b then x else y) = some r) (hb : b = true) : x = some r := by rw [hb] at h; exact h
theorem bif_f {α : Type} {b : Bool} {x y : Option α} {r : α} (h : (bif b then x else y) = some r) (hb : b = false) : y = some r := by rw [hb] at h; exact h
theorem bnd {α β : Type} {o : Option α} {f : α → Option β} {r : β} (h : o.bind f = some r) : ∃ x, o = some x ∧ f x = some r := Option.bind_eq_some_iff.1 h

section
variable {P : Program} {Γ : Gd} {N : Nat} {Q : Exit → Act → World → Prop} {A A' : List (Nat × MV)} {L L' : List (Nat × Option MObj)} {f : Act → World → Prop} {id id' : Nat}
theorem tsr (h : TE Γ N (Q .ret) A L) : TE Γ N (Exit.then f Q .ret) A L := h
theorem tsx (h : TE Γ N (Q (.exit id)) A L) : TE Γ N (Exit.then f Q (.exit id)) A L := h
theorem tsn (h : TE Γ N f A L) : TE Γ N (Exit.then f Q .normal) A L := h
theorem tbr (h : TE Γ N (Q .ret) A L) : TE Γ N (Exit.inBlock id Q .ret) A L := h
theorem tbn (h : TE Γ N (Q .normal) A L) : TE Γ N (Exit.inBlock id Q .normal) A L := h
theorem tbe (h : TE Γ N (Q .normal) A L) : TE Γ N (Exit.inBlock id Q (.exit id)) A L := fun a w hs => by
  show (if id = id then Q .normal a w else Q (.exit id) a w)
  rw [if_pos rfl]; exact h a w hs
theorem tbx (hne : id' ≠ id) (h : TE Γ N (Q (.exit id')) A L) : TE Γ N (Exit.inBlock id Q (.exit id')) A L := fun a w hs => by
  show (if id' = id then Q .normal a w else Q (.exit id') a w)
  rw [if_neg hne]; exact h a w hs
end

mutual
def MV.frz (key : Nat) (k : Kd) (xs : List k.T) : MV → MV
  | .sl q => if q == key then .im (.slice k) xs else .sl q
  | .agg l => .agg (MV.frzL key k xs l)
  | .tup l => .tup (MV.frzL key k xs l)
  | .fn f l => .fn f (MV.frzL key k xs l)
  | .ifc t x => .ifc t (x.frz key k xs)
  | .cnd t x => .cnd t (x.frz key k xs)
  | .int k x => .int k x
  | .bool b => .bool b
  | .str s => .str s
  | .nilp => .nilp
  | .nils => .nils
  | .nilf => .nilf
  | .nili => .nili
  | .nilm => .nilm
  | .p k off => .p k off
  | .pe k i f => .pe k i f
  | .im k x => .im k x
  | .pim k x => .pim k x
  | .raw v => .raw v
  | .hd k n => .hd k n
  | .sv k n => .sv k n
  | .pf k o j => .pf k o j
def MV.frzL (key : Nat) (k : Kd) (xs : List k.T) : List MV → List MV
  | [] => []
  | x :: l => x.frz key k xs :: MV.frzL key k xs l
end
def MObj.frz (key : Nat) (k : Kd) (xs : List k.T) : MObj → MObj
  | .cells cs => .cells (MV.frzL key k xs cs)
  | .rows k' ys => .rows k' ys
  | .ab a => .ab a
  | .foc p cs q => .foc p (MV.frzL key k xs cs) q
def frzA (key : Nat) (k : Kd) (xs : List k.T) (A : List (Nat × MV)) : List (Nat × MV) := A.map fun q => (q.1, q.2.frz key k xs)
def frzO (key : Nat) (k : Kd) (xs : List k.T) (L : List (Nat × Option MObj)) : List (Nat × Option MObj) := (key, none) :: L.map fun q => (q.1, q.2.map (·.frz key k xs))

mutual
theorem frz_cv {ρ : Nat → Hd} {m m' : Mem} (hm : Mle m m') {key : Nat} {k : Kd} {xs : List k.T} (hk : (Kd.slice k).R m' xs [(ρ key).hdr]) : ∀ (x : MV) (v : Value), Cv ρ m x v → Cv ρ m' (x.frz key k xs) v
  | .sl q, v, h => by
    simp only [MV.frz]
    split
    · rename_i e
      have := beq_iff_eq.1 e; subst this
      simp only [Cv] at h; subst h; exact hk
    · exact h
  | .agg l, v, ⟨vs, e, h⟩ => ⟨vs, e, frz_cvL hm hk l vs h⟩
  | .tup l, v, ⟨vs, e, h⟩ => ⟨vs, e, frz_cvL hm hk l vs h⟩
  | .fn f l, v, ⟨vs, e, h⟩ => ⟨vs, e, frz_cvL hm hk l vs h⟩
  | .ifc t x, v, ⟨y, e, h⟩ => ⟨y, e, frz_cv hm hk x y h⟩
  | .cnd t x, v, h => ⟨fun e => frz_cv hm hk x v (h.1 e), h.2⟩
  | .int _ _, _, h => h
  | .bool _, _, h => h
  | .str _, _, h => h
  | .nilp, _, h => h
  | .nils, _, h => h
  | .nilf, _, h => h
  | .nili, _, h => h
  | .nilm, _, h => h
  | .p _ _, _, h => h
  | .pe _ _ _, _, h => h
  | .im k x, v, h => Cv.mono hm (.im k x) v (fun _ _ => rfl) h
  | .pim k x, v, h => Cv.mono hm (.pim k x) v (fun _ _ => rfl) h
  | .raw _, _, h => h
  | .hd _ _, _, h => h
  | .sv _ _, _, h => h
  | .pf _ _ _, _, h => h
theorem frz_cvL {ρ : Nat → Hd} {m m' : Mem} (hm : Mle m m') {key : Nat} {k : Kd} {xs : List k.T} (hk : (Kd.slice k).R m' xs [(ρ key).hdr]) : ∀ (l : List MV) (vs : List Value), CvL ρ m l vs → CvL ρ m' (MV.frzL key k xs l) vs
  | [], _, h => h
  | x :: l, _, ⟨v, us, e, h1, h2⟩ => ⟨v, us, e, frz_cv hm hk x v h1, frz_cvL hm hk l us h2⟩
end

theorem get_map {g : MV → MV} : ∀ {A : List (Nat × MV)} {s : Nat} {y : MV}, get (A.map fun q => (q.1, g q.2)) s = some y → ∃ x, get A s = some x ∧ y = g x
  | [], s, y, h => by simp [get] at h
  | (k, v) :: A, s, y, h => by
    simp only [List.map_cons, get] at h ⊢
    split at h
    · rename_i e; rw [if_pos e]; simp only [Option.some.injEq] at h; exact ⟨v, rfl, h.symm⟩
    · rename_i e; rw [if_neg e]; exact get_map h
theorem getO_map {g : MObj → MObj} : ∀ {L : List (Nat × Option MObj)} {s : Nat} {y : MObj}, getO (L.map fun q => (q.1, q.2.map g)) s = some y → ∃ x, getO L s = some x ∧ y = g x
  | [], s, y, h => by simp [getO] at h
  | (k, v) :: L, s, y, h => by
    simp only [List.map_cons, getO] at h ⊢
    split at h
    · rename_i e; rw [if_pos e]; rw [Option.map_eq_some_iff] at h; obtain ⟨x, h1, h2⟩ := h; exact ⟨x, h1, h2.symm⟩
    · rename_i e; rw [if_neg e]; exact getO_map h

theorem Sat.freeze {Γ : Gd} {N : Nat} {A : List (Nat × MV)} {L : List (Nat × Option MObj)} {a : Act} {w : World} (hs : Sat Γ N (get A) (getO L) a w) {key : Nat} {k : Kd} {xs : List k.T} (hk : getO L key = some (.rows k xs)) :
    Sat Γ N (get (frzA key k xs A)) (getO (frzO key k xs L)) a w := by
  obtain ⟨h1, h2, ρ, m, h3, h4, h5, h6⟩ := hs
  obtain ⟨g0, g1, g2⟩ := h4.obj _ _ hk
  have sel : ∀ q o, getO (frzO key k xs L) q = some o → q ≠ key ∧ ∃ o', getO L q = some o' ∧ o = o'.frz key k xs := by
    intro q o ho
    simp only [frzO, getO] at ho
    split at ho
    · cases ho
    · rename_i e
      exact ⟨fun x => e (by rw [x]; exact beq_self_eq_true key), getO_map ho⟩
  have fin : ∀ m', Mle m m' → (Kd.slice k).R m' xs [(ρ key).hdr] → (∀ b o, m' b = some o → w.heap[b]? = some o) → (∀ b, m' b = m b ∨ foot ρ key b) → Sat Γ N (get (frzA key k xs A)) (getO (frzO key k xs L)) a w := by
    intro m' hm hR hM hsame
    have hnf : ∀ q o b, q ≠ key → getO L q = some o → foot ρ q b → m' b = m b := fun q o b hne hq hf => (hsame b).resolve_right fun hf' => hne (h4.dj q o key _ b hq hk hf hf')
    refine ⟨h1, h2, ρ, m', fun s y hy => ?_, ⟨hM, fun q o ho => ?_, fun q o q' o' b ho ho' hf hf' => ?_, fun q o b ho hf => ?_, fun q o b ho hf => ?_, h4.lt⟩, ⟨h5.le.trans hm, fun b hX => ?_, h5.un, h5.size, h5.os, h5.out, h5.tape⟩, h6⟩
    · obtain ⟨x, hx, rfl⟩ := get_map hy
      obtain ⟨v, hv, hc⟩ := h3 s x hx
      exact ⟨v, hv, frz_cv hm hR x v hc⟩
    · obtain ⟨hne, o', ho', rfl⟩ := sel q o ho
      have := h4.obj q o' ho'
      cases o' with
      | cells cs => obtain ⟨p0, vs, T, p1, p2⟩ := this; exact ⟨p0, vs, T, p1, frz_cvL hm hR cs vs p2⟩
      | rows k' ys => exact osat.mono hm (fun _ _ => rfl) rfl (fun _ _ => rfl) this
      | ab a => exact osat.mono hm (fun _ _ => rfl) rfl (fun _ _ => rfl) this
      | foc p cs q => obtain ⟨p0, v1, v2, v3, T, p1, p2, p3, p4⟩ := this; exact ⟨p0, v1, v2, v3, T, p1, CvL.mono hm p v1 (fun _ _ => rfl) p2, frz_cvL hm hR cs v2 p3, CvL.mono hm q v3 (fun _ _ => rfl) p4⟩
    · obtain ⟨_, o1, ho1, _⟩ := sel q o ho
      obtain ⟨_, o2, ho2, _⟩ := sel q' o' ho'
      exact h4.dj q o1 q' o2 b ho1 ho2 hf hf'
    · obtain ⟨hne, o1, ho1, _⟩ := sel q o ho
      rw [hnf q o1 b hne ho1 hf]; exact h4.djm q o1 b ho1 hf
    · obtain ⟨hne, o1, ho1, _⟩ := sel q o ho
      exact h4.djX q o1 b ho1 hf
    · rw [(hsame b).resolve_right (fun hf => h4.djX key _ b hk hf hX)]; exact h5.nm b hX
  rcases g2 with ⟨hn, rfl⟩ | ⟨hn, hcap, vs, T, hb, hvl, hel⟩
  · exact fin m (Mle.refl m) ⟨_, rfl, .inl ⟨none, by unfold Hd.hdr; rw [hn]; rfl, rfl⟩⟩ h4.mem (fun b => .inl rfl)
  · let m' : Mem := fun b => if b = (ρ key).blk then some (.cells vs.toArray T (0, 0)) else m b
    have hmb : m (ρ key).blk = none := h4.djm key _ _ hk ⟨hn, rfl⟩
    have hle : Mle m m' := fun b o ho => by
      show (if b = (ρ key).blk then _ else m b) = some o
      rw [if_neg (fun e => by rw [e, hmb] at ho; cases ho)]; exact ho
    refine fin m' hle ⟨_, rfl, .inr ⟨(ρ key).blk, 0, (ρ key).cap, vs.toArray, T, (0, 0), by unfold Hd.hdr; rw [hn, g0]; rfl, hcap, if_pos rfl, ?_, fun i hi => ?_⟩⟩ (fun b o ho => ?_) (fun b => ?_)
    · have : xs.length * k.n ≤ (ρ key).cap * k.n := Nat.mul_le_mul_right _ hcap
      simp; omega
    · have := Kd.R.mono hle k _ _ (hel i hi)
      simpa using this
    · by_cases e : b = (ρ key).blk
      · have : (if b = (ρ key).blk then some (Obj.cells vs.toArray T (0, 0)) else m b) = some o := ho
        rw [if_pos e] at this; cases this; rw [e]; exact hb
      · have : (if b = (ρ key).blk then some (Obj.cells vs.toArray T (0, 0)) else m b) = some o := ho
        rw [if_neg e] at this; exact h4.mem b o this
    · by_cases e : b = (ρ key).blk
      · exact .inr ⟨hn, e⟩
      · exact .inl (if_neg e)

section
variable {P : Program} {Γ : Gd} {N : Nat} {Q : Exit → Act → World → Prop} {A A' : List (Nat × MV)} {L L' : List (Nat × Option MObj)}
theorem TE_frz {R : Act → World → Prop} (key : Nat) {k : Kd} {xs : List k.T} (hk : getO L key = some (.rows k xs)) (h : TE Γ N R (frzA key k xs A) (frzO key k xs L)) : TE Γ N R A L := fun a w hs => h a w (hs.freeze hk)
theorem TC_frz {c : Code} (key : Nat) {k : Kd} {xs : List k.T} (hk : getO L key = some (.rows k xs)) (h : TC P Γ N c Q (frzA key k xs A) (frzO key k xs L)) : TC P Γ N c Q A L := fun a w hs => h a w (hs.freeze hk)
theorem TL_frz {ops : Array Oper} {l : List Oper} (key : Nat) {k : Kd} {xs : List k.T} (hk : getO L key = some (.rows k xs)) (h : TL P Γ N ops Q l (frzA key k xs A) (frzO key k xs L)) : TL P Γ N ops Q l A L := fun a w hs => h a w (hs.freeze hk)
end

/-- a nil slice is an empty one of one's own -/
theorem Sat.own {Γ : Gd} {N : Nat} {A : List (Nat × MV)} {L : List (Nat × Option MObj)} {a : Act} {w : World} (hs : Sat Γ N (get A) (getO L) a w) {s : Nat} (hn : get A s = some .nils) (key : Nat) (k : Kd) (hk : 1000 ≤ key) (hfA : freshA key A = true) (hfL : freshL key L = true) :
    Sat Γ N (get ((s, .sl key) :: A)) (getO ((key, some (.rows k [])) :: L)) a w := by
  obtain ⟨h1, h2, ρ, m, h3, h4, h5, h6⟩ := hs
  have hρ : ∀ q, q ≠ key → setρ ρ key ⟨0, 0, 0, true, k.n⟩ q = ρ q := fun q hq => setρ_ne _ _ _ hq
  refine ⟨h1, h2, setρ ρ key ⟨0, 0, 0, true, k.n⟩, m, fun t y hy => ?_, ?_, h5, fun q hq => (hρ q (by omega)).trans (h6 q hq)⟩
  · simp only [get] at hy
    split at hy
    · rename_i e
      have := beq_iff_eq.1 e; subst this
      simp only [Option.some.injEq] at hy; subst hy
      obtain ⟨v, hv, hc⟩ := h3 s _ hn
      exact ⟨v, hv, by simp only [Cv, setρ_eq] at hc ⊢; exact hc⟩
    · obtain ⟨v, hv, hc⟩ := h3 t y hy
      exact ⟨v, hv, Cv.mono (Mle.refl m) y v (fun q hq => hρ q (fun e => by rw [e, freshA_ok hfA t y hy] at hq; cases hq)) hc⟩
  · have := h4.turn (ρ' := setρ ρ key ⟨0, 0, 0, true, k.n⟩) (w' := w) key (some (.rows k [])) (fun _ => False) hρ (.inr fun q o hq _ => (freshL_ok hfL q o hq).1) (fun b _ _ => rfl) (Nat.le_refl _) (fun b _ hf => hf.elim) (fun _ _ _ _ _ _ hf => hf) (fun o ho => by
      simp only [Option.some.injEq] at ho; subst ho
      refine ⟨⟨by rw [setρ_eq]; rfl, by rw [setρ_eq], .inl ⟨by rw [setρ_eq], rfl⟩⟩, fun b hf => ?_⟩
      have := hf.1; rw [setρ_eq] at this; cases this)
    exact this

/-- parts of a state under other keys: σ tells of each key the one that it had -/
def SubAr (σ : Nat → Nat) : List (Nat × MV) → List (Nat × MV) → Prop
  | [], _ => True
  | (s, x) :: l, A => get A s = some (x.ren σ) ∧ SubAr σ l A
def SubLr (σ : Nat → Nat) : List (Nat × Option MObj) → List (Nat × Option MObj) → Prop
  | [], _ => True
  | (k, o) :: l, L => (match o with | some o => getO L (σ k) = some (o.ren σ) | none => True) ∧ SubLr σ l L
theorem SubAr.get {σ : Nat → Nat} : ∀ {l A : List (Nat × MV)}, SubAr σ l A → ∀ s x, get l s = some x → get A s = some (x.ren σ)
  | [], _, _, s, x, h => by simp [Go.Fo.get] at h
  | (s', y) :: l, A, ⟨h1, h2⟩, s, x, h => by
    simp only [Go.Fo.get] at h
    split at h
    · rename_i e; have e' := beq_iff_eq.1 e; subst e'; simp only [Option.some.injEq] at h; rw [← h]; exact h1
    · exact SubAr.get h2 s x h
theorem SubLr.get {σ : Nat → Nat} : ∀ {l L : List (Nat × Option MObj)}, SubLr σ l L → ∀ k o, getO l k = some o → getO L (σ k) = some (o.ren σ)
  | [], _, _, s, x, h => by simp [getO] at h
  | (s', y) :: l, A, ⟨h1, h2⟩, s, x, h => by
    simp only [getO] at h
    split at h
    · rename_i e; have e' := beq_iff_eq.1 e; subst e'; subst h; exact h1
    · exact SubLr.get h2 s x h

theorem Sat.ren {Γ : Gd} {N : Nat} {A A' : List (Nat × MV)} {L L' : List (Nat × Option MObj)} {a : Act} {w : World} (hs : Sat Γ N (get A) (getO L) a w) (σ : Nat → Nat) (hA : SubAr σ A' A) (hL : SubLr σ L' L) (hinj : ∀ a ∈ keysO L', ∀ b ∈ keysO L', σ a = σ b → a = b) (hlow : ∀ k, k < 1000 → σ k = k) :
    Sat Γ N (get A') (getO L') a w := by
  obtain ⟨h1, h2, ρ, m, h3, h4, h5, h6⟩ := hs
  refine ⟨h1, h2, fun k => ρ (σ k), m, fun s x hx => ?_, ⟨h4.mem, fun k o ho => (osat_ren σ k o).1 (h4.obj _ _ (hL.get k o ho)), fun k o k' o' b ho ho' hf hf' => ?_, fun k o b ho hf => h4.djm _ _ b (hL.get k o ho) hf, fun k o b ho hf => h4.djX _ _ b (hL.get k o ho) hf, h4.lt⟩, h5, fun k hk => by show ρ (σ k) = _; rw [hlow k hk]; exact h6 k hk⟩
  · obtain ⟨v, hv, hc⟩ := h3 s _ (hA.get s x hx)
    exact ⟨v, hv, (Cv_ren σ x v).1 hc⟩
  · exact hinj k (getO_mem ho) k' (getO_mem ho') (h4.dj _ _ _ _ b (hL.get k o ho) (hL.get k' o' ho') hf hf')

section
variable {P : Program} {Γ : Gd} {N : Nat} {Q : Exit → Act → World → Prop} {A A' : List (Nat × MV)} {L L' : List (Nat × Option MObj)}
theorem TE_own {R : Act → World → Prop} (s key : Nat) (k : Kd) (hn : get A s = some .nils) (hk : 1000 ≤ key) (hfA : freshA key A = true) (hfL : freshL key L = true) (h : TE Γ N R ((s, .sl key) :: A) ((key, some (.rows k [])) :: L)) : TE Γ N R A L := fun a w hs => h a w (hs.own hn key k hk hfA hfL)
theorem TE_ren {R : Act → World → Prop} (σ : Nat → Nat) (hA : SubAr σ A' A) (hL : SubLr σ L' L) (hinj : ∀ a ∈ keysO L', ∀ b ∈ keysO L', σ a = σ b → a = b) (hlow : ∀ k, k < 1000 → σ k = k) (h : TE Γ N R A' L') : TE Γ N R A L := fun a w hs => h a w (hs.ren σ hA hL hinj hlow)
end

end Go.Fo
