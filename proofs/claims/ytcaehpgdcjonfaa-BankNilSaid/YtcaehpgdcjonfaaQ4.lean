/- Rows of rows that are written no more: a slice of headers becomes data. -/
import Derived.Test.YtcaehpgdcjonfaaQ3
namespace Go.Fo

/-- elements that are data, all of one kind -/
def imsM (K : Kd) : List MV → Option (List K.T)
  | [] => some []
  | .im k x :: l => if h : k = K then (match imsM K l with | some ys => some ((h ▸ x) :: ys) | none => none) else none
  | _ => none
theorem imsM_ok {ρ : Nat → Hd} {m : Mem} {K : Kd} : ∀ {cs : List MV} {xs : List K.T} {vs : List Value}, imsM K cs = some xs → CvL ρ m cs vs → vs.length = xs.length ∧ ∀ i (h : i < xs.length), K.R m xs[i] ((vs.drop (i * 1)).take 1)
  | [], xs, vs, h, hc => by
    simp only [imsM, Option.some.injEq] at h; subst h
    have : vs = [] := hc
    subst this; exact ⟨rfl, fun i h => absurd h (Nat.not_lt_zero _)⟩
  | .im k x :: l, xs, vs, h, hc => by
    simp only [imsM] at h
    split at h
    · rename_i e
      subst e
      split at h
      · rename_i ys hy
        simp only [Option.some.injEq] at h; subst h
        obtain ⟨v, us, rfl, h1, h2⟩ := hc
        obtain ⟨q1, q2⟩ := imsM_ok hy h2
        refine ⟨by simp [q1], fun i hi => ?_⟩
        cases i with
        | zero => exact h1
        | succ i => have := q2 i (by simpa using hi); simpa using this
      · cases h
    · cases h

mutual
def MV.frh (key : Nat) (k : Kd) (xs : List k.T) : MV → MV
  | .hd q c => if q == key && c == xs.length then .im (.slice k) xs else .hd q c
  | .agg l => .agg (MV.frhL key k xs l)
  | .tup l => .tup (MV.frhL key k xs l)
  | .fn f l => .fn f (MV.frhL key k xs l)
  | .ifc t x => .ifc t (x.frh key k xs)
  | .cnd t x => .cnd t (x.frh key k xs)
  | .int k x => .int k x
  | .bool b => .bool b
  | .str s => .str s
  | .nilp => .nilp
  | .nils => .nils
  | .nilf => .nilf
  | .nili => .nili
  | .nilm => .nilm
  | .p k off => .p k off
  | .pe k i f => .pe k i f
  | .im k x => .im k x
  | .pim k x => .pim k x
  | .raw v => .raw v
  | .sl k => .sl k
  | .sv k n => .sv k n
  | .pf k o j => .pf k o j
def MV.frhL (key : Nat) (k : Kd) (xs : List k.T) : List MV → List MV
  | [] => []
  | x :: l => x.frh key k xs :: MV.frhL key k xs l
end
def MObj.frh (key : Nat) (k : Kd) (xs : List k.T) : MObj → MObj
  | .cells cs => .cells (MV.frhL key k xs cs)
  | .rows k' ys => .rows k' ys
  | .ab a => .ab a
  | .foc p cs q => .foc p (MV.frhL key k xs cs) q
def frhA (key : Nat) (k : Kd) (xs : List k.T) (A : List (Nat × MV)) : List (Nat × MV) := A.map fun q => (q.1, q.2.frh key k xs)
def frhO (key : Nat) (k : Kd) (xs : List k.T) (L : List (Nat × Option MObj)) : List (Nat × Option MObj) := (key, none) :: L.map fun q => (q.1, q.2.map (·.frh key k xs))

mutual
theorem frh_cv {ρ : Nat → Hd} {m m' : Mem} (hm : Mle m m') {key : Nat} {k : Kd} {xs : List k.T} (hk : (Kd.slice k).R m' xs [.slice (some ⟨(ρ key).blk, 0, none⟩) xs.length xs.length]) : ∀ (x : MV) (v : Value), Cv ρ m x v → Cv ρ m' (x.frh key k xs) v
  | .hd q c, v, h => by
    simp only [MV.frh]
    split
    · rename_i e
      simp only [Bool.and_eq_true, beq_iff_eq] at e
      obtain ⟨rfl, rfl⟩ := e
      simp only [Cv] at h; subst h; exact hk
    · exact h
  | .agg l, v, ⟨vs, e, h⟩ => ⟨vs, e, frh_cvL hm hk l vs h⟩
  | .tup l, v, ⟨vs, e, h⟩ => ⟨vs, e, frh_cvL hm hk l vs h⟩
  | .fn f l, v, ⟨vs, e, h⟩ => ⟨vs, e, frh_cvL hm hk l vs h⟩
  | .ifc t x, v, ⟨y, e, h⟩ => ⟨y, e, frh_cv hm hk x y h⟩
  | .cnd t x, v, h => ⟨fun e => frh_cv hm hk x v (h.1 e), h.2⟩
  | .int _ _, _, h => h
  | .bool _, _, h => h
  | .str _, _, h => h
  | .nilp, _, h => h
  | .nils, _, h => h
  | .nilf, _, h => h
  | .nili, _, h => h
  | .nilm, _, h => h
  | .p _ _, _, h => h
  | .pe _ _ _, _, h => h
  | .im k x, v, h => Cv.mono hm (.im k x) v (fun _ _ => rfl) h
  | .pim k x, v, h => Cv.mono hm (.pim k x) v (fun _ _ => rfl) h
  | .raw _, _, h => h
  | .sl _, _, h => h
  | .sv _ _, _, h => h
  | .pf _ _ _, _, h => h
theorem frh_cvL {ρ : Nat → Hd} {m m' : Mem} (hm : Mle m m') {key : Nat} {k : Kd} {xs : List k.T} (hk : (Kd.slice k).R m' xs [.slice (some ⟨(ρ key).blk, 0, none⟩) xs.length xs.length]) : ∀ (l : List MV) (vs : List Value), CvL ρ m l vs → CvL ρ m' (MV.frhL key k xs l) vs
  | [], _, h => h
  | x :: l, _, ⟨v, us, e, h1, h2⟩ => ⟨v, us, e, frh_cv hm hk x v h1, frh_cvL hm hk l us h2⟩
end

theorem Sat.freezeH {Γ : Gd} {N : Nat} {A : List (Nat × MV)} {L : List (Nat × Option MObj)} {a : Act} {w : World} (hs : Sat Γ N (get A) (getO L) a w) {key : Nat} {cs : List MV} (hk : getO L key = some (.cells cs)) {k : Kd} {xs : List k.T} (hx : imsM k cs = some xs) (hn : k.n = 1) :
    Sat Γ N (get (frhA key k xs A)) (getO (frhO key k xs L)) a w := by
  obtain ⟨h1, h2, ρ, m, h3, h4, h5, h6⟩ := hs
  obtain ⟨g0, vs, T, hb, hcs⟩ := h4.obj _ _ hk
  obtain ⟨hvl, hel⟩ := imsM_ok hx hcs
  have sel : ∀ q o, getO (frhO key k xs L) q = some o → q ≠ key ∧ ∃ o', getO L q = some o' ∧ o = o'.frh key k xs := by
    intro q o ho
    simp only [frhO, getO] at ho
    split at ho
    · cases ho
    · rename_i e
      exact ⟨fun x => e (by rw [x]; exact beq_self_eq_true key), getO_map ho⟩
  have fin : ∀ m', Mle m m' → (Kd.slice k).R m' xs [.slice (some ⟨(ρ key).blk, 0, none⟩) xs.length xs.length] → (∀ b o, m' b = some o → w.heap[b]? = some o) → (∀ b, m' b = m b ∨ foot ρ key b) → Sat Γ N (get (frhA key k xs A)) (getO (frhO key k xs L)) a w := by
    intro m' hm hR hM hsame
    have hnf : ∀ q o b, q ≠ key → getO L q = some o → foot ρ q b → m' b = m b := fun q o b hne hq hf => (hsame b).resolve_right fun hf' => hne (h4.dj q o key _ b hq hk hf hf')
    refine ⟨h1, h2, ρ, m', fun s y hy => ?_, ⟨hM, fun q o ho => ?_, fun q o q' o' b ho ho' hf hf' => ?_, fun q o b ho hf => ?_, fun q o b ho hf => ?_, h4.lt⟩, ⟨h5.le.trans hm, fun b hX => ?_, h5.un, h5.size, h5.os, h5.out, h5.tape⟩, h6⟩
    · obtain ⟨x, hx, rfl⟩ := get_map hy
      obtain ⟨v, hv, hc⟩ := h3 s x hx
      exact ⟨v, hv, frh_cv hm hR x v hc⟩
    · obtain ⟨hne, o', ho', rfl⟩ := sel q o ho
      have := h4.obj q o' ho'
      cases o' with
      | cells cs => obtain ⟨p0, vs, T, p1, p2⟩ := this; exact ⟨p0, vs, T, p1, frh_cvL hm hR cs vs p2⟩
      | rows k' ys => exact osat.mono hm (fun _ _ => rfl) rfl (fun _ _ => rfl) this
      | ab a => exact osat.mono hm (fun _ _ => rfl) rfl (fun _ _ => rfl) this
      | foc p cs q => obtain ⟨p0, v1, v2, v3, T, p1, p2, p3, p4⟩ := this; exact ⟨p0, v1, v2, v3, T, p1, CvL.mono hm p v1 (fun _ _ => rfl) p2, frh_cvL hm hR cs v2 p3, CvL.mono hm q v3 (fun _ _ => rfl) p4⟩
    · obtain ⟨_, o1, ho1, _⟩ := sel q o ho
      obtain ⟨_, o2, ho2, _⟩ := sel q' o' ho'
      exact h4.dj q o1 q' o2 b ho1 ho2 hf hf'
    · obtain ⟨hne, o1, ho1, _⟩ := sel q o ho
      rw [hnf q o1 b hne ho1 hf]; exact h4.djm q o1 b ho1 hf
    · obtain ⟨hne, o1, ho1, _⟩ := sel q o ho
      exact h4.djX q o1 b ho1 hf
    · rw [(hsame b).resolve_right (fun hf => h4.djX key _ b hk hf hX)]; exact h5.nm b hX
  let m' : Mem := fun b => if b = (ρ key).blk then some (.cells vs.toArray T (0, 0)) else m b
  have hmb : m (ρ key).blk = none := h4.djm key _ _ hk ⟨g0, rfl⟩
  have hle : Mle m m' := fun b o ho => by
    show (if b = (ρ key).blk then _ else m b) = some o
    rw [if_neg (fun e => by rw [e, hmb] at ho; cases ho)]; exact ho
  refine fin m' hle ⟨_, rfl, .inr ⟨(ρ key).blk, 0, xs.length, vs.toArray, T, (0, 0), rfl, Nat.le_refl _, if_pos rfl, ?_, fun i hi => ?_⟩⟩ (fun b o ho => ?_) (fun b => ?_)
  · rw [hn]; simp; omega
  · have := Kd.R.mono hle k _ _ (hel i hi)
    rw [hn]; simpa using this
  · by_cases e : b = (ρ key).blk
    · have : (if b = (ρ key).blk then some (Obj.cells vs.toArray T (0, 0)) else m b) = some o := ho
      rw [if_pos e] at this; cases this; rw [e]; exact hb
    · have : (if b = (ρ key).blk then some (Obj.cells vs.toArray T (0, 0)) else m b) = some o := ho
      rw [if_neg e] at this; exact h4.mem b o this
  · by_cases e : b = (ρ key).blk
    · exact .inr ⟨g0, e⟩
    · exact .inl (if_neg e)

section
variable {P : Program} {Γ : Gd} {N : Nat} {Q : Exit → Act → World → Prop} {A A' : List (Nat × MV)} {L L' : List (Nat × Option MObj)}
theorem TE_frh {R : Act → World → Prop} (key : Nat) (k : Kd) {cs : List MV} {xs : List k.T} (hk : getO L key = some (.cells cs)) (hx : imsM k cs = some xs) (hn : k.n = 1) (h : TE Γ N R (frhA key k xs A) (frhO key k xs L)) : TE Γ N R A L := fun a w hs => h a w (hs.freezeH hk hx hn)
theorem TC_frh {c : Code} (key : Nat) (k : Kd) {cs : List MV} {xs : List k.T} (hk : getO L key = some (.cells cs)) (hx : imsM k cs = some xs) (hn : k.n = 1) (h : TC P Γ N c Q (frhA key k xs A) (frhO key k xs L)) : TC P Γ N c Q A L := fun a w hs => h a w (hs.freezeH hk hx hn)
theorem TL_frh {ops : Array Oper} {l : List Oper} (key : Nat) (k : Kd) {cs : List MV} {xs : List k.T} (hk : getO L key = some (.cells cs)) (hx : imsM k cs = some xs) (hn : k.n = 1) (h : TL P Γ N ops Q l (frhA key k xs A) (frhO key k xs L)) : TL P Γ N ops Q l A L := fun a w hs => h a w (hs.freezeH hk hx hn)
end
/-- a nil slice in a cell is an empty one of one's own -/
theorem cvL_set {ρ : Nat → Hd} {m : Mem} {key : Nat} (hr : (ρ key).hdr = .slice none 0 0) : ∀ {cs : List MV} {vs : List Value} {j : Nat}, cs[j]? = some .nils → CvL ρ m cs vs → CvL ρ m (cs.set j (.sl key)) vs
  | [], _, _, hj, _ => by simp at hj
  | x :: l, vs, 0, hj, ⟨v, us, e, h1, h2⟩ => by
    simp only [List.getElem?_cons_zero, Option.some.injEq] at hj
    subst hj
    exact ⟨v, us, e, by simp only [Cv] at h1 ⊢; rw [hr]; exact h1, h2⟩
  | x :: l, vs, j + 1, hj, ⟨v, us, e, h1, h2⟩ => ⟨v, us, e, h1, cvL_set hr (by simpa using hj) h2⟩
theorem Sat.ownC {Γ : Gd} {N : Nat} {A : List (Nat × MV)} {L : List (Nat × Option MObj)} {a : Act} {w : World} (hs : Sat Γ N (get A) (getO L) a w) {q j : Nat} {cs : List MV} (hq : getO L q = some (.cells cs)) (hj : cs[j]? = some .nils) (key : Nat) (k : Kd) (hk : 1000 ≤ key) (hfA : freshA key A = true) (hfL : freshL key L = true) :
    Sat Γ N (get A) (getO ((q, some (.cells (cs.set j (.sl key)))) :: (key, some (.rows k [])) :: L)) a w := by
  obtain ⟨h1, h2, ρ, m, h3, h4, h5, h6⟩ := hs
  have hρ : ∀ q, q ≠ key → setρ ρ key ⟨0, 0, 0, true, k.n⟩ q = ρ q := fun q hq => setρ_ne _ _ _ hq
  have hqk : q ≠ key := (freshL_ok hfL q _ hq).2
  have hr : ((setρ ρ key ⟨0, 0, 0, true, k.n⟩) key).hdr = .slice none 0 0 := by rw [setρ_eq]; rfl
  have t1 := h4.turn (ρ' := setρ ρ key ⟨0, 0, 0, true, k.n⟩) (w' := w) key (some (.rows k [])) (fun _ => False) hρ (.inr fun q o hq _ => (freshL_ok hfL q o hq).1) (fun b _ _ => rfl) (Nat.le_refl _) (fun b _ hf => hf.elim) (fun _ _ _ _ _ _ hf => hf) (fun o ho => by
      simp only [Option.some.injEq] at ho; subst ho
      refine ⟨⟨by rw [setρ_eq]; rfl, by rw [setρ_eq], .inl ⟨by rw [setρ_eq], rfl⟩⟩, fun b hf => ?_⟩
      have := hf.1; rw [setρ_eq] at this; cases this)
  have hq' : (fun x => if key == x then some (MObj.rows k []) else getO L x) q = some (.cells cs) := by
    show (if key == q then _ else _) = _
    rw [if_neg (by simpa using fun e => hqk e.symm)]; exact hq
  have t2 := t1.turn (ρ' := setρ ρ key ⟨0, 0, 0, true, k.n⟩) (w' := w) q (some (.cells (cs.set j (.sl key)))) (fun _ => False) (fun _ _ => rfl) (.inl rfl) (fun b _ _ => rfl) (Nat.le_refl _) (fun b _ hf => hf.elim) (fun _ _ _ _ _ _ hf => hf) (fun o ho => by
      simp only [Option.some.injEq] at ho; subst ho
      obtain ⟨g0, vs, T, g1, g2⟩ := t1.obj q _ hq'
      exact ⟨⟨g0, vs, T, g1, cvL_set hr hj g2⟩, fun b hf => ⟨t1.djm q _ b hq' hf, t1.djX q _ b hq' hf, fun k' o' hne ho' hf' => hne (t1.dj k' o' q _ b ho' hq' hf' hf)⟩⟩)
  refine ⟨h1, h2, setρ ρ key ⟨0, 0, 0, true, k.n⟩, m, fun t y hy => ?_, t2, h5, fun q hq => (hρ q (by omega)).trans (h6 q hq)⟩
  obtain ⟨v, hv, hc⟩ := h3 t y hy
  exact ⟨v, hv, Cv.mono (Mle.refl m) y v (fun q hq => hρ q (fun e => by rw [e, freshA_ok hfA t y hy] at hq; cases hq)) hc⟩
section
variable {P : Program} {Γ : Gd} {N : Nat} {Q : Exit → Act → World → Prop} {A A' : List (Nat × MV)} {L L' : List (Nat × Option MObj)}
theorem TL_ownC {ops : Array Oper} {l : List Oper} (q j key : Nat) (k : Kd) {cs : List MV} (hq : getO L q = some (.cells cs)) (hj : cs[j]? = some .nils) (hk : 1000 ≤ key) (hfA : freshA key A = true) (hfL : freshL key L = true) (h : TL P Γ N ops Q l A ((q, some (.cells (cs.set j (.sl key)))) :: (key, some (.rows k [])) :: L)) : TL P Γ N ops Q l A L := fun a w hs => h a w (hs.ownC hq hj key k hk hfA hfL)
theorem TC_num {c : Code} (s : Nat) {k : IntKind} {x : Int} (n : Int) (hx : x = n) (hg : get A s = some (.int k x)) (h : TC P Γ N c Q ((s, .int k n) :: A) L) : TC P Γ N c Q A L := by
  intro a w hs
  refine h a w (hs.weak (fun t y hy => ?_) (fun _ _ h => h))
  simp only [get] at hy
  split at hy
  · rename_i e'; have := beq_iff_eq.1 e'; subst this; rw [hg, hx]; exact hy
  · exact hy
theorem TC_numC {c : Code} (q j : Nat) {k : IntKind} {x : Int} {cs : List MV} (n : Int) (hx : x = n) (hq : getO L q = some (.cells cs)) (hj : cs[j]? = some (.int k x)) (h : TC P Γ N c Q A ((q, some (.cells (cs.set j (.int k n)))) :: L)) : TC P Γ N c Q A L := by
  have e : cs.set j (.int k n) = cs := by
    subst hx
    apply List.ext_getElem?
    intro i
    rw [List.getElem?_set]
    split
    · rename_i e; subst e; rw [hj]; split
      · rfl
      · rename_i hlt; rw [List.getElem?_eq_none (by omega)] at hj; cases hj
    · rfl
  rw [e] at h
  intro a w hs
  refine h a w (hs.weak (fun _ _ h => h) (fun t y hy => ?_))
  simp only [getO] at hy
  split at hy
  · rename_i e'; have := beq_iff_eq.1 e'; subst this; rw [hq]; exact hy
  · exact hy
theorem TE_ownC {R : Act → World → Prop} (q j key : Nat) (k : Kd) {cs : List MV} (hq : getO L q = some (.cells cs)) (hj : cs[j]? = some .nils) (hk : 1000 ≤ key) (hfA : freshA key A = true) (hfL : freshL key L = true) (h : TE Γ N R A ((q, some (.cells (cs.set j (.sl key)))) :: (key, some (.rows k [])) :: L)) : TE Γ N R A L := fun a w hs => h a w (hs.ownC hq hj key k hk hfA hfL)
end
end Go.Fo
