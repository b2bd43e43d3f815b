/- Objects of cells that are written no more; guards that were left out themselves. -/
import Derived.Test.YtcaehpgdcjonfaaQ2
namespace Go.Fo
mutual
/-- a pointer to a whole object that is written no more -/
def MV.frzc (key : Nat) (k : Kd) (x : k.T) : MV → MV
  | .p q 0 => if q == key then .pim k x else .p q 0
  | .p q (n + 1) => .p q (n + 1)
  | .sl q => .sl q
  | .hd q n => .hd q n
  | .sv q n => .sv q n
  | .pf q o j => .pf q o j
  | .agg l => .agg (MV.frzcL key k x l)
  | .tup l => .tup (MV.frzcL key k x l)
  | .fn f l => .fn f (MV.frzcL key k x l)
  | .ifc t y => .ifc t (y.frzc key k x)
  | .cnd t y => .cnd t (y.frzc key k x)
  | .int k x => .int k x
  | .bool b => .bool b
  | .str s => .str s
  | .nilp => .nilp
  | .nils => .nils
  | .nilf => .nilf
  | .nili => .nili
  | .nilm => .nilm
  | .pe k i f => .pe k i f
  | .im k x => .im k x
  | .pim k x => .pim k x
  | .raw v => .raw v
def MV.frzcL (key : Nat) (k : Kd) (x : k.T) : List MV → List MV
  | [] => []
  | y :: l => y.frzc key k x :: MV.frzcL key k x l
end
def MObj.frzc (key : Nat) (k : Kd) (x : k.T) : MObj → MObj
  | .cells cs => .cells (MV.frzcL key k x cs)
  | .rows k' ys => .rows k' ys
  | .ab a => .ab a
  | .foc p cs q => .foc p (MV.frzcL key k x cs) q
def frzcA (key : Nat) (k : Kd) (x : k.T) (A : List (Nat × MV)) : List (Nat × MV) := A.map fun q => (q.1, q.2.frzc key k x)
def frzcO (key : Nat) (k : Kd) (x : k.T) (L : List (Nat × Option MObj)) : List (Nat × Option MObj) := (key, none) :: L.map fun q => (q.1, q.2.map (·.frzc key k x))

mutual
theorem frzc_cv {ρ : Nat → Hd} {m m' : Mem} (hm : Mle m m') {key : Nat} {k : Kd} {x : k.T} (hk : ∃ cells T fr, m' (ρ key).blk = some (.cells cells T fr) ∧ k.n ≤ cells.size ∧ k.R m' x (cells.toList.take k.n)) : ∀ (y : MV) (v : Value), Cv ρ m y v → Cv ρ m' (y.frzc key k x) v
  | .p q 0, v, h => by
    simp only [MV.frzc]
    split
    · rename_i e
      have := beq_iff_eq.1 e; subst this
      simp only [Cv] at h; subst h
      obtain ⟨cells, T, fr, h1, h2, h3⟩ := hk
      exact ⟨_, 0, cells, T, fr, rfl, h1, by omega, by simpa using h3⟩
    · exact h
  | .p q (n + 1), v, h => h
  | .agg l, v, ⟨vs, e, h⟩ => ⟨vs, e, frzc_cvL hm hk l vs h⟩
  | .tup l, v, ⟨vs, e, h⟩ => ⟨vs, e, frzc_cvL hm hk l vs h⟩
  | .fn f l, v, ⟨vs, e, h⟩ => ⟨vs, e, frzc_cvL hm hk l vs h⟩
  | .ifc t x, v, ⟨y, e, h⟩ => ⟨y, e, frzc_cv hm hk x y h⟩
  | .cnd t x, v, h => ⟨fun e => frzc_cv hm hk x v (h.1 e), h.2⟩
  | .int _ _, _, h => h
  | .bool _, _, h => h
  | .str _, _, h => h
  | .nilp, _, h => h
  | .nils, _, h => h
  | .nilf, _, h => h
  | .nili, _, h => h
  | .nilm, _, h => h
  | .sl _, _, h => h
  | .hd _ _, _, h => h
  | .sv _ _, _, h => h
  | .pf _ _ _, _, h => h
  | .pe _ _ _, _, h => h
  | .im k x, v, h => Kd.R.mono hm k x _ h
  | .pim k x, _, ⟨b, off, cells, T, fr, h1, h2, h3, h4⟩ => ⟨b, off, cells, T, fr, h1, hm _ _ h2, h3, Kd.R.mono hm k x _ h4⟩
  | .raw _, _, h => h
theorem frzc_cvL {ρ : Nat → Hd} {m m' : Mem} (hm : Mle m m') {key : Nat} {k : Kd} {x : k.T} (hk : ∃ cells T fr, m' (ρ key).blk = some (.cells cells T fr) ∧ k.n ≤ cells.size ∧ k.R m' x (cells.toList.take k.n)) : ∀ (l : List MV) (vs : List Value), CvL ρ m l vs → CvL ρ m' (MV.frzcL key k x l) vs
  | [], _, h => h
  | y :: l, _, ⟨v, us, e, h1, h2⟩ => ⟨v, us, e, frzc_cv hm hk y v h1, frzc_cvL hm hk l us h2⟩
end

theorem flat_R {ρ : Nat → Hd} {m : Mem} : ∀ (k : Kd) (x : k.T) (cs : List Value), CvL ρ m (k.flat x) cs → k.R m x cs
  | .int _, _, _, ⟨_, _, rfl, rfl, rfl⟩ => rfl
  | .bool, _, _, ⟨_, _, rfl, rfl, rfl⟩ => rfl
  | .str, _, _, ⟨_, _, rfl, rfl, rfl⟩ => rfl
  | .slice _, _, _, ⟨_, _, rfl, h, rfl⟩ => h
  | .pair a b, x, cs, h => by
    have h : CvL ρ m (a.flat x.1 ++ b.flat x.2) cs := h
    obtain ⟨c1, c2, rfl, h1, h2⟩ := split_cvL _ h
    exact ⟨c1, c2, rfl, flat_R a x.1 c1 h1, flat_R b x.2 c2 h2⟩
  | .unit, _, _, h => h
where
  split_cvL {ρ : Nat → Hd} {m : Mem} : ∀ (l : List MV) {l' : List MV} {cs : List Value}, CvL ρ m (l ++ l') cs → ∃ c1 c2, cs = c1 ++ c2 ∧ CvL ρ m l c1 ∧ CvL ρ m l' c2
  | [], l', cs, h => ⟨[], cs, rfl, rfl, h⟩
  | y :: l, l', _, ⟨v, us, rfl, h1, h2⟩ => by
    obtain ⟨c1, c2, rfl, g1, g2⟩ := split_cvL l h2
    exact ⟨v :: c1, c2, rfl, ⟨v, c1, rfl, h1, g1⟩, g2⟩

theorem Sat.freezec {Γ : Gd} {N : Nat} {A : List (Nat × MV)} {L : List (Nat × Option MObj)} {a : Act} {w : World} (hs : Sat Γ N (get A) (getO L) a w) {key : Nat} (k : Kd) (x : k.T) (hk : getO L key = some (.cells (k.flat x))) :
    Sat Γ N (get (frzcA key k x A)) (getO (frzcO key k x L)) a w := by
  obtain ⟨h1, h2, ρ, m, h3, h4, h5, h6⟩ := hs
  have hobj := h4.obj _ _ hk
  have sel : ∀ q o, getO (frzcO key k x L) q = some o → q ≠ key ∧ ∃ o', getO L q = some o' ∧ o = o'.frzc key k x := by
    intro q o ho
    simp only [frzcO, getO] at ho
    split at ho
    · cases ho
    · rename_i e
      exact ⟨fun x => e (by rw [x]; exact beq_self_eq_true key), getO_map ho⟩
  obtain ⟨p0, vs, T, p1, p2⟩ := hobj
  have hR := flat_R k x vs p2
  let m' : Mem := fun b => if b = (ρ key).blk then some (.cells vs.toArray T (0, 0)) else m b
  have hmb : m (ρ key).blk = none := h4.djm key _ _ hk ⟨p0, rfl⟩
  have hm : Mle m m' := fun b o ho => by
    show (if b = (ρ key).blk then _ else m b) = some o
    rw [if_neg (fun e => by rw [e, hmb] at ho; cases ho)]; exact ho
  have hlen := Kd.R.len _ _ _ hR
  have hR' : ∃ cells T fr, m' (ρ key).blk = some (.cells cells T fr) ∧ k.n ≤ cells.size ∧ k.R m' x (cells.toList.take k.n) :=
    ⟨vs.toArray, T, (0, 0), if_pos rfl, by simp; omega, by
      have := Kd.R.mono hm k x vs hR
      rw [List.take_of_length_le (by simp; omega)]; simpa using this⟩
  have hM : ∀ b o, m' b = some o → w.heap[b]? = some o := fun b o ho => by
    by_cases e : b = (ρ key).blk
    · have : (if b = (ρ key).blk then some (Obj.cells vs.toArray T (0, 0)) else m b) = some o := ho
      rw [if_pos e] at this; cases this; rw [e]; exact p1
    · have : (if b = (ρ key).blk then some (Obj.cells vs.toArray T (0, 0)) else m b) = some o := ho
      rw [if_neg e] at this; exact h4.mem b o this
  have hsame : ∀ b, m' b = m b ∨ foot ρ key b := fun b => by
    by_cases e : b = (ρ key).blk
    · exact .inr ⟨p0, e⟩
    · exact .inl (if_neg e)
  have hnf : ∀ q o b, q ≠ key → getO L q = some o → foot ρ q b → m' b = m b := fun q o b hne hq hf => (hsame b).resolve_right fun hf' => hne (h4.dj q o key _ b hq hk hf hf')
  refine ⟨h1, h2, ρ, m', fun s y hy => ?_, ⟨hM, fun q o ho => ?_, fun q o q' o' b ho ho' hf hf' => ?_, fun q o b ho hf => ?_, fun q o b ho hf => ?_, h4.lt⟩, ⟨h5.le.trans hm, fun b hX => ?_, h5.un, h5.size, h5.os, h5.out, h5.tape⟩, h6⟩
  · obtain ⟨y', hy', rfl⟩ := get_map hy
    obtain ⟨v, hv, hc⟩ := h3 s y' hy'
    exact ⟨v, hv, frzc_cv hm hR' y' v hc⟩
  · obtain ⟨hne, o', ho', rfl⟩ := sel q o ho
    have := h4.obj q o' ho'
    cases o' with
    | cells cs => obtain ⟨p0, vs, T, p1, p2⟩ := this; exact ⟨p0, vs, T, p1, frzc_cvL hm hR' cs vs p2⟩
    | rows k' ys => exact osat.mono hm (fun _ _ => rfl) rfl (fun _ _ => rfl) this
    | ab a => exact osat.mono hm (fun _ _ => rfl) rfl (fun _ _ => rfl) this
    | foc p cs q => obtain ⟨p0, v1, v2, v3, T, p1, p2, p3, p4⟩ := this; exact ⟨p0, v1, v2, v3, T, p1, CvL.mono hm p v1 (fun _ _ => rfl) p2, frzc_cvL hm hR' cs v2 p3, CvL.mono hm q v3 (fun _ _ => rfl) p4⟩
  · obtain ⟨_, o1, ho1, _⟩ := sel q o ho
    obtain ⟨_, o2, ho2, _⟩ := sel q' o' ho'
    exact h4.dj q o1 q' o2 b ho1 ho2 hf hf'
  · obtain ⟨hne, o1, ho1, _⟩ := sel q o ho
    rw [hnf q o1 b hne ho1 hf]; exact h4.djm q o1 b ho1 hf
  · obtain ⟨hne, o1, ho1, _⟩ := sel q o ho
    exact h4.djX q o1 b ho1 hf
  · rw [(hsame b).resolve_right (fun hf => h4.djX key _ b hk hf hX)]; exact h5.nm b hX

section
variable {P : Program} {Γ : Gd} {N : Nat} {Q : Exit → Act → World → Prop} {A A' : List (Nat × MV)} {L L' : List (Nat × Option MObj)} {r : Rg}
theorem TL_frzc {ops : Array Oper} {l : List Oper} (key : Nat) (k : Kd) (x : k.T) (hk : getO L key = some (.cells (k.flat x))) (h : TL P Γ N ops Q l (frzcA key k x A) (frzcO key k x L)) : TL P Γ N ops Q l A L := fun a w hs => h a w (hs.freezec k x hk)
theorem TE_frzc {R : Act → World → Prop} (key : Nat) (k : Kd) (x : k.T) (hk : getO L key = some (.cells (k.flat x))) (h : TE Γ N R (frzcA key k x A) (frzcO key k x L)) : TE Γ N R A L := fun a w hs => h a w (hs.freezec k x hk)

/-- a nil slice is an empty one -/
theorem TE_imn {R : Act → World → Prop} (s : Nat) (k : Kd) (hn : get A s = some .nils) (h : TE Γ N R ((s, .im (.slice k) []) :: A) L) : TE Γ N R A L := by
  intro a w hs
  refine h a w ?_
  obtain ⟨h1, h2, ρ, m, h3, h4, h5, h6⟩ := hs
  refine ⟨h1, h2, ρ, m, fun t y hy => ?_, h4, h5, h6⟩
  simp only [get] at hy
  split at hy
  · rename_i e
    have := beq_iff_eq.1 e; subst this
    simp only [Option.some.injEq] at hy; subst hy
    obtain ⟨v, hv, hc⟩ := h3 s _ hn
    simp only [Cv] at hc; subst hc
    exact ⟨_, hv, _, rfl, .inl ⟨none, rfl, rfl⟩⟩
  · exact h3 t y hy

theorem wanted_not {ops : Array Oper} {o oj : Oper} {j dj : Nat} {want : Bool} {y : MV} (hg : o.guard = some (j, want)) (hj : ops[j]? = some oj) (hdj : oj.dst = some dj) {Af : Nat → Option MV} {Lf : Nat → Option MObj} {a : Act} {w : World} (hv : Af dj = some (.cnd false y)) (hs : Sat Γ N Af Lf a w) :
    Region.wanted o (yielded ops a.tmps) = false := by
  obtain ⟨h1, h2, ρ, m, h3, _⟩ := hs
  unfold Region.wanted
  rw [hg]
  simp only [yielded, hj, Option.bind_some, hdj]
  obtain ⟨v, hv, hc⟩ := h3 dj _ hv
  have := hc.2 rfl; subst this
  rw [hv]; cases want <;> rfl
/-- a guard that was left out itself -/
theorem TL_gu (x : MV) {y : MV} {ops : Array Oper} {o oj : Oper} {l : List Oper} {j dj d : Nat} {want : Bool} (hg : o.guard = some (j, want)) (hj : ops[j]? = some oj) (hdj : oj.dst = some dj) (hv : get A dj = some (.cnd false y)) (hd : o.dst = some d) (hdN : d < N)
    (k : TL P Γ N ops Q l ((d, .cnd false x) :: A) L) : TL P Γ N ops Q (o :: l) A L := by
  intro a w hs
  refine wpList_step fun K hK => ?_
  rw [if_neg (by rw [wanted_not hg hj hdj hv hs]; simp), hd]
  refine hK _ _ (k _ _ ?_)
  obtain ⟨h1, h2, ρ, m, h3, h4, h5, h6⟩ := hs
  refine ⟨by rw [put_size]; exact h1, by rw [put_defers]; exact h2, ρ, m, fun s y hx => ?_, h4, h5, h6⟩
  have hc : Cv ρ m (.cnd false x) undef := ⟨fun e => (by cases e), fun _ => rfl⟩
  exact slots_put (Mle.refl m) (ρ' := ρ) h3 (v := undef) (x := .cnd false x) (dst := some d) (fun d' e => by cases e; rw [h1]; exact hdN) (fun _ => hc) (fun _ _ _ _ _ => rfl) s y hx
theorem TL_gu0 {y : MV} {ops : Array Oper} {o oj : Oper} {l : List Oper} {j dj : Nat} {want : Bool} (hg : o.guard = some (j, want)) (hj : ops[j]? = some oj) (hdj : oj.dst = some dj) (hv : get A dj = some (.cnd false y)) (hd : o.dst = none)
    (k : TL P Γ N ops Q l A L) : TL P Γ N ops Q (o :: l) A L := by
  intro a w hs
  refine wpList_step fun K hK => ?_
  rw [if_neg (by rw [wanted_not hg hj hdj hv hs]; simp), hd]
  exact hK _ _ (k _ _ hs)
theorem skipU_ok (x : MV) {y : MV} {vA : List (Nat × MV)} {vL : List (Nat × Option MObj)} {i j dj d : Nat} {o oj : Oper} {want : Bool} (ho : r.ops[i]? = some o) (hg : o.guard = some (j, want)) (hj : r.ops[j]? = some oj) (hdj : oj.dst = some dj) (hv : get vA dj = some (.cnd false y)) (hd : o.dst = some d) (hdN : d < N) :
    OpAt P Γ N Q r vA vL ([(d, .cnd false x)], []) i ∧ De.ok r i ([(d, .cnd false x)], []) := by
  refine ⟨fun Af Lf a w hA hL _ hs K hK => ?_, fun s hs => ?_, fun k hk => by simp [hasK] at hk⟩
  · have hw := wanted_not hg hj hdj (hA _ _ hv) hs
    obtain ⟨h1, h2, ρ, m, h3, h4, h5, h6⟩ := hs
    unfold wpOp
    rw [ho]
    simp only [hw, Bool.false_eq_true, if_false, hd]
    refine hK _ _ ⟨by rw [put_size]; exact h1, by rw [put_defers]; exact h2, ρ, m, fun s y hy => ?_, h4, h5, h6⟩
    rw [addsA_one] at hy
    have hc : Cv ρ m (.cnd false x) undef := ⟨fun e => (by cases e), fun _ => rfl⟩
    exact slots_put (Mle.refl m) (ρ' := ρ) h3 (v := undef) (x := .cnd false x) (dst := some d) (fun d' e => by cases e; rw [h1]; exact hdN) (fun _ => hc) (fun _ _ _ _ _ => rfl) s y hy
  · simp only [hasK, List.any_cons, List.any_nil, Bool.or_false, beq_iff_eq] at hs
    rw [dst_of ho, hd, hs]
theorem AJR_gskipU (x : MV) {y : MV} {G : Prop} {ex : Nat → List Nat} {l : List De} {n j dj : Nat} {o oj : Oper} {want : Bool} {d : Nat} (n' : Nat) (hn' : n' = n + 1) (hn : n < r.ops.size) (ho : r.ops[n]? = some o) (hg : o.guard = some (j, want)) (hj : r.ops[j]? = some oj) (hdj : oj.dst = some dj) (hv : get (viewA2 r (fnR n l) A n) dj = some (.cnd false y)) (hd : o.dst = some d) (hdN : d < N)
    (k : AJR P Γ N Q r ex A L G n' (([(d, .cnd false x)], []) :: l)) : AJR P Γ N Q r ex A L G n l := by
  subst hn'; exact AJR_step hn (skipU_ok x ho hg hj hdj hv hd hdN) k
end
end Go.Fo
