/- Appends to a slice of the function's own: what is known behind them. -/
import Derived.Test.YtcaehpgdcjonfaaKn
namespace Go.Fo

/-- the types of an append: a slice's, and no whole number's -/
structure ATy (P : Program) (tys : Array TypeId) (T : TypeId) : Prop where
  t0 : tys[0]? = some T
  t1 : ∀ t, tys[1]? = some t → ∃ d, P.underlying t = some d ∧ ∀ q, d ≠ .int q

theorem append_fits {P : Program} {tys : Array TypeId} {ty T : TypeId} (hT : ATy P tys T) {i : TI} (ht : TOK P T i) {k : Kd} (hk : i.ek = some k)
    {base : Option Addr} {sLen sCap : Nat} {v : Value} {w : World} {m : Mem} {ys : List k.T} {cs : List Value} (hsrc : Src P m k w ys v cs) (hle : sLen + ys.length ≤ sCap) {w' : World}
    (hst : (match base with | some a => storeCells (a.add (sLen * k.n)) cs | none => pure () : Sem Unit).run P w = .ok () w') :
    (Builtin.append_ tys ty #[.slice base sLen sCap, v]).run P w = .ok (.slice base (sLen + ys.length) sCap) w' := by
  obtain ⟨hslc, hkn, je, z, hje, hjb, hz', hzr⟩ := ht.ek k hk
  obtain ⟨hund, hsz⟩ := ht.slc hslc
  obtain ⟨j', hj', hjs⟩ := sizeb_ok hsz
  rw [hje] at hj'; cases hj'
  obtain ⟨a, c, rfl⟩ := hsrc.shape
  have hread : (Builtin.firstCells k.n ys.length (.slice a ys.length c)).run P w = .ok cs.toArray w := hsrc.read w.drawn
  have hsize : ∀ w, (sizeOf i.elem).run P w = .ok k.n w := fun w => by rw [run_sizeOf hje, hjs, hkn]
  unfold Builtin.append_
  simp only [hT.t0, List.getElem?_toArray, List.getElem?_cons_zero, List.getElem?_cons_succ]
  rw [run_bind', run_underlying hund]; simp only
  rw [run_bind', hsize]; simp only
  cases h1 : tys[1]? with
  | none =>
    simp only
    rw [run_bind', run_pure]; simp only [Bool.false_eq_true, if_false, Bool.not_false, if_true]
    rw [run_bind', show (Builtin.lenOf (.slice a ys.length c)).run P w = .ok ys.length w from rfl]; simp only
    rw [if_pos hle, run_bind', hread]; simp only
    cases base with
    | none => simp only [run_pure] at hst ⊢; cases hst; rfl
    | some b => simp only at hst ⊢; rw [run_bind', hst]; rfl
  | some t =>
    obtain ⟨d, hd, hq⟩ := hT.t1 t h1
    simp only
    rw [run_bind', run_underlying hd]; simp only
    rw [run_bind', run_pure]; simp only [Bool.false_eq_true, if_false, Bool.not_false, if_true]
    rw [run_bind', show (Builtin.lenOf (.slice a ys.length c)).run P w = .ok ys.length w from rfl]; simp only
    rw [if_pos hle, run_bind', hread]; simp only
    cases base with
    | none => simp only [run_pure] at hst ⊢; cases hst; rfl
    | some b => simp only at hst ⊢; rw [run_bind', hst]; rfl

theorem append_grows {P : Program} {tys : Array TypeId} {ty T : TypeId} (hT : ATy P tys T) {i : TI} (ht : TOK P T i) {k : Kd} (hk : i.ek = some k) (hb : 1 ≤ i.eb)
    {base : Option Addr} {sLen sCap : Nat} {v : Value} {w : World} {m : Mem} {ys : List k.T} {cs os : List Value} (hsrc : Src P m k w ys v cs) (hgt : sCap < sLen + ys.length) (hbound : (sLen + ys.length) * i.eb ≤ 70368744177664)
    (hold : ∀ n, (Builtin.firstCells k.n sLen (.slice base sLen sCap)).run P { w with drawn := n } = .ok os.toArray { w with drawn := n }) :
    ∃ w' cap rest, (Builtin.append_ tys ty #[.slice base sLen sCap, v]).run P w = .ok (.slice (some ⟨w.heap.size, 0, none⟩) (sLen + ys.length) cap) w' ∧ Nw w w' (.cells (os ++ (cs ++ rest)).toArray i.elem (0, 0)) ∧ sLen + ys.length ≤ cap ∧ rest.length = (cap - (sLen + ys.length)) * k.n := by
  obtain ⟨hslc, hkn, je, z, hje, hjb, hz', hzr⟩ := ht.ek k hk
  obtain ⟨hund, hsz⟩ := ht.slc hslc
  obtain ⟨j', hj', hjs⟩ := sizeb_ok hsz
  rw [hje] at hj'; cases hj'
  have hzl : z.cells.size = k.n := by
    have := Kd.R.len _ _ _ (hzr m); rw [← this]; simp
  obtain ⟨a, c, rfl⟩ := hsrc.shape
  have hread := hsrc.read
  have hti : ∀ w, (typeInfo i.elem).run P w = .ok je w := fun w => by simp [typeInfo, program, Sem.run, hje, pure]
  have hsize : ∀ w, (sizeOf i.elem).run P w = .ok k.n w := fun w => by rw [run_sizeOf hje, hjs, hkn]
  have hno1 : ¬ (((sLen + ys.length : Nat) : Int) > IntKind.i64.max ∧ (false = true ∨ je.bytes = 0)) := by
    rintro ⟨_, h | h⟩
    · cases h
    · omega
  have hno2 : ¬ (Builtin.nextslicecap (sLen + ys.length) sCap * je.bytes > 2 ^ 48) := by
    have h1 := nextcap_le hgt
    have h2 : Builtin.nextslicecap (sLen + ys.length) sCap * i.eb ≤ (2 * (sLen + ys.length)) * i.eb := Nat.mul_le_mul_right _ h1
    have h3 : (2 * (sLen + ys.length)) * i.eb = 2 * ((sLen + ys.length) * i.eb) := Nat.mul_assoc _ _ _
    rw [hjb]; omega
  let q : Question := .appendCap (sLen + ys.length) sCap i.elem
  let cap := q.cut (w.tape w.drawn q)
  have hcap : sLen + ys.length ≤ cap := Nat.le_add_right _ _
  have hroom : ∀ (n : Nat) w, (askRoom n).run P w = .ok () w := by intro n w; unfold askRoom; split <;> rfl
  refine ⟨{ w with drawn := w.drawn + 1, heap := w.heap.push (.cells (os.toArray ++ cs.toArray ++ Builtin.zeroCells z.cells (cap - (sLen + ys.length))) i.elem (0, 0)) }, cap, (Builtin.zeroCells z.cells (cap - (sLen + ys.length))).toList, ?_, ⟨?_, rfl, rfl, rfl⟩, hcap, ?_⟩
  case refine_3 => simp [Builtin.zeroCells, hzl]
  case refine_2 =>
    show w.heap.push _ = _
    congr 2
    apply Array.ext'; simp
  unfold Builtin.append_
  simp only [hT.t0, List.getElem?_toArray, List.getElem?_cons_zero, List.getElem?_cons_succ]
  rw [run_bind', run_underlying hund]; simp only
  rw [run_bind', hsize]; simp only
  cases h1 : tys[1]? with
  | none =>
    simp only
    rw [run_bind', run_pure]; simp only [Bool.false_eq_true, if_false, Bool.not_false, if_true]
    rw [run_bind', show (Builtin.lenOf (.slice a ys.length c)).run P w = .ok ys.length w from rfl]; simp only
    rw [if_neg (by omega), run_bind', hti]; simp only
    rw [if_neg (by simpa using hno1), run_bind', hti]; simp only
    rw [if_neg hno2]
    rw [run_bind', show (choose q).run P w = .ok cap { w with drawn := w.drawn + 1 } from rfl]; simp only
    rw [run_bind', hti]; simp only
    rw [run_bind', hroom]; simp only
    rw [run_bind', hold]; simp only
    rw [run_bind', hread]; simp only
    rw [run_bind', run_zeroValue hje hz']; rfl
  | some t =>
    obtain ⟨d, hd, hq⟩ := hT.t1 t h1
    simp only
    rw [run_bind', run_underlying hd]; simp only
    rw [run_bind', run_pure]; simp only [Bool.false_eq_true, if_false, Bool.not_false, if_true]
    rw [run_bind', show (Builtin.lenOf (.slice a ys.length c)).run P w = .ok ys.length w from rfl]; simp only
    rw [if_neg (by omega), run_bind', hti]; simp only
    rw [if_neg (by simpa using hno1), run_bind', hti]; simp only
    rw [if_neg hno2]
    rw [run_bind', show (choose q).run P w = .ok cap { w with drawn := w.drawn + 1 } from rfl]; simp only
    rw [run_bind', hti]; simp only
    rw [run_bind', hroom]; simp only
    rw [run_bind', hold]; simp only
    rw [run_bind', hread]; simp only
    rw [run_bind', run_zeroValue hje hz']; rfl

end Go.Fo
