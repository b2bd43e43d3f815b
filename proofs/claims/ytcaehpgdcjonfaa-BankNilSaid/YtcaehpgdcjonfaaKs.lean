/- Calls: the caller's symbolic state behind a call, out of the callee's contract. -/
import Derived.Test.YtcaehpgdcjonfaaKr
namespace Go.Fo

mutual
def MV.ren (π : Nat → Nat) : MV → MV
  | .p k off => .p (π k) off
  | .pe k i f => .pe (π k) i f
  | .sl k => .sl (π k)
  | .hd k n => .hd (π k) n
  | .sv k n => .sv (π k) n
  | .pf k o j => .pf (π k) o j
  | .agg l => .agg (MV.renL π l)
  | .tup l => .tup (MV.renL π l)
  | .fn f l => .fn f (MV.renL π l)
  | .ifc t x => .ifc t (x.ren π)
  | .cnd t x => .cnd t (x.ren π)
  | .int k x => .int k x
  | .bool b => .bool b
  | .str s => .str s
  | .nilp => .nilp
  | .nils => .nils
  | .nilf => .nilf
  | .nili => .nili
  | .nilm => .nilm
  | .im k x => .im k x
  | .pim k x => .pim k x
  | .raw v => .raw v
def MV.renL (π : Nat → Nat) : List MV → List MV
  | [] => []
  | x :: l => x.ren π :: MV.renL π l
end
def MObj.ren (π : Nat → Nat) : MObj → MObj
  | .cells cs => .cells (MV.renL π cs)
  | .rows k xs => .rows k xs
  | .ab a => .ab a
  | .foc p cs q => .foc p (MV.renL π cs) q

mutual
theorem Cv_ren {ρ : Nat → Hd} {m : Mem} (π : Nat → Nat) : ∀ (x : MV) (v : Value), Cv ρ m (x.ren π) v ↔ Cv (fun k => ρ (π k)) m x v
  | .p _ _, _ => Iff.rfl
  | .pe _ _ _, _ => Iff.rfl
  | .sl _, _ => Iff.rfl
  | .hd _ _, _ => Iff.rfl
  | .sv _ _, _ => Iff.rfl
  | .pf _ _ _, _ => Iff.rfl
  | .agg l, v => by
    simp only [MV.ren, Cv]
    exact ⟨fun ⟨vs, h, k⟩ => ⟨vs, h, (CvL_ren π l vs).1 k⟩, fun ⟨vs, h, k⟩ => ⟨vs, h, (CvL_ren π l vs).2 k⟩⟩
  | .tup l, v => by
    simp only [MV.ren, Cv]
    exact ⟨fun ⟨vs, h, k⟩ => ⟨vs, h, (CvL_ren π l vs).1 k⟩, fun ⟨vs, h, k⟩ => ⟨vs, h, (CvL_ren π l vs).2 k⟩⟩
  | .fn f l, v => by
    simp only [MV.ren, Cv]
    exact ⟨fun ⟨vs, h, k⟩ => ⟨vs, h, (CvL_ren π l vs).1 k⟩, fun ⟨vs, h, k⟩ => ⟨vs, h, (CvL_ren π l vs).2 k⟩⟩
  | .ifc t x, v => by
    simp only [MV.ren, Cv]
    exact ⟨fun ⟨y, h, k⟩ => ⟨y, h, (Cv_ren π x y).1 k⟩, fun ⟨y, h, k⟩ => ⟨y, h, (Cv_ren π x y).2 k⟩⟩
  | .cnd t x, v => by
    simp only [MV.ren, Cv]
    exact ⟨fun ⟨h, k⟩ => ⟨fun e => (Cv_ren π x v).1 (h e), k⟩, fun ⟨h, k⟩ => ⟨fun e => (Cv_ren π x v).2 (h e), k⟩⟩
  | .int _ _, _ => Iff.rfl
  | .bool _, _ => Iff.rfl
  | .str _, _ => Iff.rfl
  | .nilp, _ => Iff.rfl
  | .nils, _ => Iff.rfl
  | .nilf, _ => Iff.rfl
  | .nili, _ => Iff.rfl
  | .nilm, _ => Iff.rfl
  | .im _ _, _ => Iff.rfl
  | .pim _ _, _ => Iff.rfl
  | .raw _, _ => Iff.rfl
theorem CvL_ren {ρ : Nat → Hd} {m : Mem} (π : Nat → Nat) : ∀ (l : List MV) (vs : List Value), CvL ρ m (MV.renL π l) vs ↔ CvL (fun k => ρ (π k)) m l vs
  | [], _ => Iff.rfl
  | x :: l, vs => by
    simp only [MV.renL, CvL]
    exact ⟨fun ⟨v, us, h, k, r⟩ => ⟨v, us, h, (Cv_ren π x v).1 k, (CvL_ren π l us).1 r⟩, fun ⟨v, us, h, k, r⟩ => ⟨v, us, h, (Cv_ren π x v).2 k, (CvL_ren π l us).2 r⟩⟩
end

theorem osat_ren {ρ : Nat → Hd} {m : Mem} {w : World} (π : Nat → Nat) (k : Nat) (o : MObj) : osat ρ m w (π k) (o.ren π) ↔ osat (fun k => ρ (π k)) m w k o := by
  cases o with
  | cells cs =>
    simp only [MObj.ren, osat]
    exact ⟨fun ⟨h, vs, T, h1, h2⟩ => ⟨h, vs, T, h1, (CvL_ren π cs vs).1 h2⟩, fun ⟨h, vs, T, h1, h2⟩ => ⟨h, vs, T, h1, (CvL_ren π cs vs).2 h2⟩⟩
  | rows k' xs => exact Iff.rfl
  | ab a => exact Iff.rfl
  | foc p cs q =>
    simp only [MObj.ren, osat]
    exact ⟨fun ⟨h, v1, v2, v3, T, h1, h2, h3, h4⟩ => ⟨h, v1, v2, v3, T, h1, h2, (CvL_ren π cs v2).1 h3, h4⟩, fun ⟨h, v1, v2, v3, T, h1, h2, h3, h4⟩ => ⟨h, v1, v2, v3, T, h1, h2, (CvL_ren π cs v2).2 h3, h4⟩⟩

/-- the keys of a list of objects -/
def keysO (L : List (Nat × Option MObj)) : List Nat := L.map (·.1)
def renO (π : Nat → Nat) (L : List (Nat × Option MObj)) : List (Nat × Option MObj) := L.map fun q => (π q.1, q.2.map (·.ren π))

/-- a call's function is one with a body -/
def fnb (P : Program) (f : FuncId) : Bool := match P.funcs[f]? with | some fn => fn.body.isSome && !(fn.name == "runtime.NumGoroutine") | none => false

theorem run_callFunc {P : Program} {f : FuncId} (h : fnb P f = true) (args : Array Value) (w : World) : (callFunc f args).run P w = .ok (.enter f args) w := by
  unfold fnb at h
  split at h
  · rename_i fn hfn
    simp only [Bool.and_eq_true, Bool.not_eq_true'] at h
    unfold callFunc
    rw [run_bind', show (program).run P w = .ok P w from rfl]; simp only [hfn]
    rw [if_neg (by simp [h.2]), if_neg (by cases hb : fn.body <;> simp_all)]
    rfl
  · cases h

theorem getO_mem {L : List (Nat × Option MObj)} {k : Nat} {o : MObj} (h : getO L k = some o) : k ∈ keysO L := by
  induction L with
  | nil => simp [getO] at h
  | cons q L ih =>
    obtain ⟨k', o'⟩ := q
    simp only [getO] at h
    simp only [keysO, List.map_cons, List.mem_cons]
    split at h
    · rename_i e; exact .inl (by simpa using (beq_iff_eq.1 e).symm)
    · exact .inr (ih h)

/-- a renamed list of objects over the rest -/
theorem updO_ren {π : Nat → Nat} {L : List (Nat × Option MObj)} {M : Nat → Option MObj} (hinj : ∀ a ∈ keysO L, ∀ b ∈ keysO L, π a = π b → a = b) : ∀ c, (∃ k ∈ keysO L, π k = c ∧ updO (renO π L) M c = (getO L k).map (·.ren π)) ∨ ((∀ k ∈ keysO L, π k ≠ c) ∧ updO (renO π L) M c = M c) := by
  induction L with
  | nil => intro c; right; exact ⟨fun k hk => by simp [keysO] at hk, rfl⟩
  | cons q L ih =>
    obtain ⟨k', o'⟩ := q
    intro c
    by_cases e : π k' = c
    · left
      refine ⟨k', by simp [keysO], e, ?_⟩
      simp [renO, updO, getO, e]
    · have hup : updO (renO π ((k', o') :: L)) M c = updO (renO π L) M c := by simp [renO, updO, e]
      rcases ih (fun a ha b hb => hinj a (by simp [keysO] at ha ⊢; exact .inr ha) b (by simp [keysO] at hb ⊢; exact .inr hb)) c with ⟨k, hk, h1, h2⟩ | ⟨h1, h2⟩
      · left
        have hk' : k ∈ keysO ((k', o') :: L) := by simp [keysO] at hk ⊢; exact .inr hk
        refine ⟨k, hk', h1, ?_⟩
        rw [hup, h2]
        have : k' ≠ k := fun x => e (by rw [x]; exact h1)
        simp [getO, this]
      · right
        refine ⟨fun k hk => ?_, by rw [hup, h2]⟩
        simp only [keysO, List.map_cons, List.mem_cons] at hk
        rcases hk with rfl | hk
        · exact e
        · exact h1 k hk

/-- the keys that objects and a result mention are keys that are told -/
def toldB (ks : List Nat) (x : MV) (L : List (Nat × Option MObj)) : Prop :=
  (∀ d, x.has d = true → d ∈ ks) ∧ ∀ k o, getO L k = some o → ∀ d, o.has d = true → d ∈ ks

theorem call_sat {P : Program} {Γ : Gd} {N : Nat} {A : Nat → Option MV} {L : Nat → Option MObj} {f : FuncId} {xs : List MV} {Lc Lc' : List (Nat × Option MObj)} {res : MV} (hF : Fn P f xs Lc res Lc') (π : Nat → Nat)
    (hL : ∀ k o, getO Lc k = some o → L (π k) = some (o.ren π)) (hk1 : ∀ k ∈ keysO Lc, k ∈ keysO Lc') (hinj : ∀ a ∈ keysO Lc', ∀ b ∈ keysO Lc', π a = π b → a = b) (htold : toldB (keysO Lc') res Lc')
    (hnew : ∀ k ∈ keysO Lc', 1000 ≤ k → 1000 ≤ π k ∧ k ∉ keysO Lc ∧ (∀ s x, A s = some x → x.has (π k) = false) ∧ (∀ c o, L c = some o → o.has (π k) = false ∧ c ≠ π k))
    {a : Act} {w : World} (hs : Sat Γ N A L a w) {vs : List Value} (hv : ∀ ρ m, (∀ s x, A s = some x → ∃ v, a.tmps[s]? = some v ∧ Cv ρ m x v) → CvL ρ m (MV.renL π xs) vs) (R : Value → World → Prop)
    (hR : ∀ v w', (∀ dst : Option Nat, (∀ d, dst = some d → d < N) → Sat Γ N (addA dst (res.ren π) A) (updO (renO π Lc') L) (a.put dst v) w') → R v w') :
    Calls P f vs.toArray w fun e w' => match e with | .returned v => R v w' | _ => False := by
  obtain ⟨h1, h2, ρ, m, h3, h4, h5, h6⟩ := hs
  let X' : Nat → Prop := fun b => Γ.X b ∨ ∃ k o, L k = some o ∧ (∀ kc ∈ keysO Lc, π kc ≠ k) ∧ foot ρ k b
  have hH : Hp X' (fun k => ρ (π k)) m (getO Lc) w := by
    refine ⟨h4.mem, fun k o hk => (osat_ren π k o).1 (h4.obj _ _ (hL k o hk)), fun k o k' o' b hk hk' hf hf' => ?_, fun k o b hk hf => h4.djm _ _ b (hL k o hk) hf, fun k o b hk hf hX => ?_, fun b hX => ?_⟩
    · exact hinj _ (hk1 _ (getO_mem hk)) _ (hk1 _ (getO_mem hk')) (h4.dj _ _ _ _ b (hL k o hk) (hL k' o' hk') hf hf')
    · rcases hX with hX | ⟨c, oc, hc, hne, hfc⟩
      · exact h4.djX _ _ b (hL k o hk) hf hX
      · exact hne k (getO_mem hk) (h4.dj _ _ _ _ b (hL k o hk) hc hf hfc)
    · rcases hX with hX | ⟨c, oc, hc, _, hfc⟩
      · exact h4.lt b hX
      · exact foot_lt h4 hc hfc
  refine (hF X' (fun k => ρ (π k)) m w vs hH ((CvL_ren π xs vs).1 (hv ρ m h3))).mono ?_
  rintro e w' ⟨ρ', m', v, rfl, hcv, hH', hN, hρ'⟩
  refine hR v w' (fun dst hdst => ?_)
  -- the caller's keys anew
  let ρ'' : Nat → Hd := fun c => match (keysO Lc').find? (fun k => decide (1000 ≤ k) && decide (π k = c)) with | some k => ρ' k | none => ρ c
  have hfind : ∀ k ∈ keysO Lc', 1000 ≤ k → ρ'' (π k) = ρ' k := by
    intro k hk hge
    show (match (keysO Lc').find? (fun q => decide (1000 ≤ q) && decide (π q = π k)) with | some q => ρ' q | none => ρ (π k)) = ρ' k
    cases hf : (keysO Lc').find? (fun q => decide (1000 ≤ q) && decide (π q = π k)) with
    | none => exact absurd hge (by have := (List.find?_eq_none.1 hf) k hk; simpa using this)
    | some q =>
      have hq := List.find?_some hf
      have hqm := List.mem_of_find?_eq_some hf
      simp only [Bool.and_eq_true, decide_eq_true_eq] at hq
      rw [hinj q hqm k hk hq.2]
  have hsame : ∀ c, (∀ k ∈ keysO Lc', 1000 ≤ k → π k ≠ c) → ρ'' c = ρ c := by
    intro c hc
    show (match (keysO Lc').find? (fun q => decide (1000 ≤ q) && decide (π q = c)) with | some q => ρ' q | none => ρ c) = ρ c
    cases hf : (keysO Lc').find? (fun q => decide (1000 ≤ q) && decide (π q = c)) with
    | none => rfl
    | some q =>
      have hq := List.find?_some hf
      have hqm := List.mem_of_find?_eq_some hf
      simp only [Bool.and_eq_true, decide_eq_true_eq] at hq
      exact absurd hq.2 (hc q hqm hq.1)
  have hkey : ∀ k ∈ keysO Lc', ρ'' (π k) = ρ' k := by
    intro k hk
    rcases Nat.lt_or_ge k 1000 with hlt | hge
    · rw [hρ' k hlt, hsame]
      intro q hq hge' e
      have := hinj q hq k hk e
      omega
    · exact hfind k hk hge
  have hA'' : ∀ s y, A s = some y → ∀ k, y.has k = true → ρ'' k = ρ k := by
    intro s y hy k hk
    refine hsame k (fun q hq hge e => ?_)
    have := (hnew q hq hge).2.2.1 s y hy
    rw [e, hk] at this; cases this
  have hL'' : ∀ c o, L c = some o → ρ'' c = ρ c ∧ ∀ k, o.has k = true → ρ'' k = ρ k := by
    intro c o hc
    refine ⟨hsame c (fun q hq hge e => ((hnew q hq hge).2.2.2 c o hc).2 e.symm), fun k hk => hsame k (fun q hq hge e => ?_)⟩
    have := ((hnew q hq hge).2.2.2 c o hc).1
    rw [e, hk] at this; cases this
  have hother : ∀ c o, L c = some o → (∀ k ∈ keysO Lc', π k ≠ c) → ∀ b, foot ρ c b → X' b := fun c o hc hne b hf => .inr ⟨c, o, hc, fun k hk => hne k (hk1 k hk), hf⟩
  have hfo : ∀ c o, L c = some o → ∀ b, foot ρ'' c b ↔ foot ρ c b := fun c o hc b => by unfold foot; rw [(hL'' c o hc).1]
  have hfk : ∀ k ∈ keysO Lc', ∀ b, foot ρ'' (π k) b ↔ foot ρ' k b := fun k hk b => by unfold foot; rw [hkey k hk]
  have sel : ∀ c o, updO (renO π Lc') L c = some o → (∃ k oc, k ∈ keysO Lc' ∧ π k = c ∧ getO Lc' k = some oc ∧ o = oc.ren π) ∨ ((∀ k ∈ keysO Lc', π k ≠ c) ∧ L c = some o) := by
    intro c o ho
    rcases updO_ren (M := L) hinj c with ⟨k, hk, hc, he⟩ | ⟨hne, he⟩
    · left
      rw [he, Option.map_eq_some_iff] at ho
      obtain ⟨oc, hoc, rfl⟩ := ho
      exact ⟨k, oc, hk, hc, hoc, rfl⟩
    · right; exact ⟨hne, by rw [← he]; exact ho⟩
  refine ⟨by rw [put_size]; exact h1, by rw [put_defers]; exact h2, ρ'', m', slots_put hN.le h3 (fun d e => h1 ▸ hdst d e) (fun _ => ?_) hA'', ⟨fun b o hb => hH'.mem b o hb, fun c o ho => ?_, fun c o c' o' b ho ho' hf hf' => ?_, fun c o b ho hf => ?_, fun c o b ho hf hX => ?_, fun b hX => ?_⟩, h5.trans ⟨hN.le, fun b hX => hN.nm b (.inl hX), fun b hX => hN.un b (.inl hX), hN.size, hN.os, hN.out, hN.tape⟩, fun k hk => ?_⟩
  · refine (Cv_ren π res v).2 (Cv.mono (Mle.refl m') res v (fun d hd => ?_) hcv)
    exact hkey d (htold.1 d hd)
  · rcases sel c o ho with ⟨k, oc, hk, rfl, hoc, rfl⟩ | ⟨hne, hc⟩
    · refine (osat_ren π k oc).2 (osat.mono (Mle.refl m') (fun d hd => ?_) (hkey k hk) (fun _ _ => rfl) (hH'.obj k oc hoc))
      exact hkey d (htold.2 k oc hoc d hd)
    · exact osat.mono hN.le (hL'' c o hc).2 (hL'' c o hc).1 (fun b hf => hN.un b (hother c o hc hne b hf)) (h4.obj c o hc)
  · rcases sel c o ho with ⟨k, oc, hk, rfl, hoc, rfl⟩ | ⟨hne, hc⟩ <;> rcases sel c' o' ho' with ⟨k', oc', hk', rfl, hoc', rfl⟩ | ⟨hne', hc'⟩
    · rw [hH'.dj k oc k' oc' b hoc hoc' ((hfk k hk b).1 hf) ((hfk k' hk' b).1 hf')]
    · exact absurd (hother c' o' hc' hne' b ((hfo c' o' hc' b).1 hf')) (hH'.djX k oc b hoc ((hfk k hk b).1 hf))
    · exact absurd (hother c o hc hne b ((hfo c o hc b).1 hf)) (hH'.djX k' oc' b hoc' ((hfk k' hk' b).1 hf'))
    · exact h4.dj c o c' o' b hc hc' ((hfo c o hc b).1 hf) ((hfo c' o' hc' b).1 hf')
  · rcases sel c o ho with ⟨k, oc, hk, rfl, hoc, rfl⟩ | ⟨hne, hc⟩
    · exact hH'.djm k oc b hoc ((hfk k hk b).1 hf)
    · rw [hN.nm b (hother c o hc hne b ((hfo c o hc b).1 hf))]
      exact h4.djm c o b hc ((hfo c o hc b).1 hf)
  · rcases sel c o ho with ⟨k, oc, hk, rfl, hoc, rfl⟩ | ⟨hne, hc⟩
    · exact hH'.djX k oc b hoc ((hfk k hk b).1 hf) (.inl hX)
    · exact h4.djX c o b hc ((hfo c o hc b).1 hf) hX
  · exact hH'.lt b (.inl hX)
  · rw [hsame k (fun q hq hge e => by have := (hnew q hq hge).1; omega)]; exact h6 k hk

end Go.Fo
