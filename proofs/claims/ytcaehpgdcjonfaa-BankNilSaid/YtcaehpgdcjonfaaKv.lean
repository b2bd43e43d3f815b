/- Calls inside a region; slices that are written no more; keys anew. -/
import Derived.Test.YtcaehpgdcjonfaaKu
namespace Go.Fo

-- no key is mentioned
mutual
def MV.kf : MV → Bool
  | .p _ _ => false
  | .pe _ _ _ => false
  | .sl _ => false
  | .hd _ _ => false
  | .sv _ _ => false
  | .pf _ _ _ => false
  | .agg l => MV.kfL l
  | .tup l => MV.kfL l
  | .fn _ l => MV.kfL l
  | .ifc _ x => x.kf
  | .cnd _ x => x.kf
  | _ => true
def MV.kfL : List MV → Bool
  | [] => true
  | x :: l => x.kf && MV.kfL l
end
mutual
theorem kf_has (d : Nat) : ∀ x : MV, x.kf = true → x.has d = false
  | .agg l, h => kfL_has d l h
  | .tup l, h => kfL_has d l h
  | .fn _ l, h => kfL_has d l h
  | .ifc _ x, h => kf_has d x h
  | .cnd _ x, h => kf_has d x h
  | .p _ _, h => by simp [MV.kf] at h
  | .pe _ _ _, h => by simp [MV.kf] at h
  | .sl _, h => by simp [MV.kf] at h
  | .hd _ _, h => by simp [MV.kf] at h
  | .sv _ _, h => by simp [MV.kf] at h
  | .pf _ _ _, h => by simp [MV.kf] at h
  | .int _ _, _ => rfl | .bool _, _ => rfl | .str _, _ => rfl | .nilp, _ => rfl | .nils, _ => rfl | .nilf, _ => rfl | .nili, _ => rfl | .nilm, _ => rfl
  | .im _ _, _ => rfl | .pim _ _, _ => rfl | .raw _, _ => rfl
theorem kfL_has (d : Nat) : ∀ l : List MV, MV.kfL l = true → MV.hasL d l = false
  | [], _ => rfl
  | x :: l, h => by
    simp only [MV.kfL, Bool.and_eq_true] at h
    simp only [MV.hasL, Bool.or_eq_false_iff]
    exact ⟨kf_has d x h.1, kfL_has d l h.2⟩
end

/-- the function and the arguments of a call -/
def calleeM (A : List (Nat × MV)) : Op → Option (FuncId × List MV × Prop)
  | .call { callee := .value fo, args, .. } => match opg A none fo, opgs A none args.toList with
    | some (.fn f caps, C), some (ys, D) => some (f, ys ++ caps, C ∧ D)
    | _, _ => none
  | _ => none

theorem callee_run {P : Program} {A : List (Nat × MV)} {o : Oper} {f : FuncId} {xs : List MV} {C : Prop} (h : calleeM A o.op = some (f, xs, C)) (hC : C) (hf : fnb P f = true) {a : Act} {w : World}
    (hA : ∃ ρ m, Slots ρ m A a) : ∃ vs : List Value, (execOp a.eval o).run P w = .ok (.enter f vs.toArray) w ∧ ∀ ρ m, Slots ρ m A a → CvL ρ m xs vs := by
  obtain ⟨dst, op, ty, pos, after, guard⟩ := o
  simp only at h
  unfold calleeM at h
  split at h
  · rename_i fo args tys
    split at h
    · rename_i f' caps D ys E h1 h2
      simp only [Option.some.injEq, Prod.mk.injEq] at h; obtain ⟨rfl, rfl, rfl⟩ := h
      obtain ⟨ρ0, m0, hs0⟩ := hA
      obtain ⟨cs, hcs, _⟩ := opg_ok hs0 (.inl rfl) h1 hC.1
      refine ⟨args.toList.map a.eval ++ cs, ?_, fun ρ m hs => ?_⟩
      · show (do let d ← resolve a.eval { callee := .value fo, args := args, argTypes := tys } ty; invoke d.target d.args : Sem Next).run P w = _
        unfold resolve Deferred.ofValue
        simp only [hcs]
        rw [run_bind', run_pure]; simp only
        unfold invoke
        simp only
        have he : #[] ++ args.map a.eval ++ cs.toArray = (args.toList.map a.eval ++ cs).toArray := by apply Array.ext'; simp
        rw [he, run_callFunc hf]
      · obtain ⟨cs', hcs', hc⟩ := opg_ok hs (.inl rfl) h1 hC.1
        have : cs' = cs := by
          rw [hcs] at hcs'
          simp only [Value.func.injEq, true_and] at hcs'
          have := congrArg Array.toList hcs'
          simpa using this.symm
        subst this
        exact CvL.append (opgs_ok hs (.inl rfl) h2 hC.2) hc
    · cases h
  · cases h

section
variable {P : Program} {Γ : Gd} {N : Nat} {Q : Exit → Act → World → Prop} {A A' : List (Nat × MV)} {L L' : List (Nat × Option MObj)}

def addL (dst : Option Nat) (x : MV) (A : List (Nat × MV)) : List (Nat × MV) := match dst with | some d => (d, x) :: A | none => A
theorem addL_get (dst : Option Nat) (x : MV) (A : List (Nat × MV)) : get (addL dst x A) = addA dst x (get A) := by cases dst <;> rfl

/-- a call: the general rule, for a state told by functions -/
theorem callop_sat {Af : Nat → Option MV} {Lf : Nat → Option MObj} (hAf : ∀ s x, get A s = some x → Af s = some x) {o : Oper} {f : FuncId} {xs ys : List MV} {Lc Lc' : List (Nat × Option MObj)} {res : MV} {C : Prop} (hF : Fn P f xs Lc res Lc') (h : calleeM A o.op = some (f, ys, C)) (hC : C) (hf : fnb P f = true)
    (π : Nat → Nat) (hys : ys = MV.renL π xs) (hL : ∀ k oc, getO Lc k = some oc → Lf (π k) = some (oc.ren π)) (hk1 : ∀ k ∈ keysO Lc, k ∈ keysO Lc') (hinj : ∀ a ∈ keysO Lc', ∀ b ∈ keysO Lc', π a = π b → a = b) (htold : toldB (keysO Lc') res Lc')
    (hnew : ∀ k ∈ keysO Lc', 1000 ≤ k → 1000 ≤ π k ∧ k ∉ keysO Lc ∧ (∀ s x, Af s = some x → x.has (π k) = false) ∧ (∀ c oc, Lf c = some oc → oc.has (π k) = false ∧ c ≠ π k))
    (hd : ∀ d, o.dst = some d → d < N) {a : Act} {w : World} (hs : Sat Γ N Af Lf a w) : o.wp P a w (fun a' w' => Sat Γ N (addA o.dst (res.ren π) Af) (updO (renO π Lc') Lf) a' w') Q := by
  have hs' := hs
  obtain ⟨h1, h2, ρ, m, h3, h4⟩ := hs'
  obtain ⟨vs, hrun, hvs⟩ := callee_run (P := P) (w := w) h hC hf ⟨ρ, m, fun s x hx => h3 s x (hAf s x hx)⟩
  unfold Oper.wp
  rw [hrun, Oper.upon_enter]
  refine (call_sat hF π hL hk1 hinj htold hnew hs (vs := vs) (fun ρ m hh => hys ▸ hvs ρ m (fun s x hx => hh s x (hAf s x hx))) (fun v w' => Sat Γ N (addA o.dst (res.ren π) Af) (updO (renO π Lc') Lf) (a.put o.dst v) w') (fun v w' hw => hw o.dst hd)).mono ?_
  rintro e w' he
  cases e with
  | returned v => exact he
  | panicked _ => exact he.elim
  | outgrown => exact he.elim

def toldL (ks : List Nat) (x : MV) (L : List (Nat × Option MObj)) : Prop := toldB ks x L

/-- a call without objects -/
theorem TL_call0 {ops : Array Oper} {o : Oper} {l : List Oper} {f : FuncId} {xs : List MV} {res : MV} {C : Prop} (hF : Fn P f xs [] res []) (h : calleeM A o.op = some (f, xs, C)) (hC : C) (hf : fnb P f = true) (hg : o.guard = none) (hk : res.kf = true) (hd : ∀ d, o.dst = some d → d < N)
    (k : TL P Γ N ops Q l (addL o.dst res A) L) : TL P Γ N ops Q (o :: l) A L := by
  intro a w hs
  refine wpList_plain hg fun K hK => ?_
  refine Oper.wp_mono (fun a1 w1 hs1 => hK a1 w1 (k a1 w1 ?_)) (callop_sat (fun _ _ h => h) hF h hC hf (fun k => k) (renL_id xs).symm (fun k oc hk => by simp [getO] at hk) (fun k hk => by simp [keysO] at hk) (fun k hk => by simp [keysO] at hk)
    ⟨fun d hd' => (by rw [kf_has d res hk] at hd'; cases hd'), fun k oc hk => (by simp [getO] at hk)⟩ (fun k hk => by simp [keysO] at hk) hd hs)
  rw [ren_id] at hs1
  rw [addL_get]
  exact hs1

/-- the conditions of a call with objects, for lists -/
structure COK (π : Nat → Nat) (A : List (Nat × MV)) (L Lc Lc' : List (Nat × Option MObj)) (res : MV) : Prop where
  sub : SubL (renO π Lc) L
  k1 : ∀ k ∈ keysO Lc, k ∈ keysO Lc'
  inj : ∀ a ∈ keysO Lc', ∀ b ∈ keysO Lc', π a = π b → a = b
  told : toldB (keysO Lc') res Lc'
  new : ∀ k ∈ keysO Lc', 1000 ≤ k → 1000 ≤ π k ∧ k ∉ keysO Lc ∧ freshA (π k) A = true ∧ freshL (π k) L = true

theorem getO_ren {π : Nat → Nat} : ∀ {L : List (Nat × Option MObj)}, (∀ a ∈ keysO L, ∀ b ∈ keysO L, π a = π b → a = b) → ∀ k oc, getO L k = some oc → getO (renO π L) (π k) = some (oc.ren π) := by
  intro L hinj k oc h
  have hk := getO_mem h
  have : updO (renO π L) (fun _ => none) = getO (renO π L) := by
    have := getO_append (renO π L) []
    rw [List.append_nil] at this
    rw [this]; rfl
  rcases updO_ren (M := fun _ => none) hinj (π k) with ⟨k', hk', e, h2⟩ | ⟨hne, _⟩
  · have := hinj k' hk' k hk e
    subst this
    rw [← this, h2, h]; rfl
  · exact absurd rfl (hne k hk)

theorem TL_call {ops : Array Oper} {o : Oper} {l : List Oper} {f : FuncId} {xs ys : List MV} {Lc Lc' : List (Nat × Option MObj)} {res : MV} {C : Prop} (π : Nat → Nat) (hF : Fn P f xs Lc res Lc') (h : calleeM A o.op = some (f, ys, C)) (hC : C) (hf : fnb P f = true) (hg : o.guard = none) (hys : ys = MV.renL π xs) (hd : ∀ d, o.dst = some d → d < N)
    (hc : COK π A L Lc Lc' res) (k : TL P Γ N ops Q l (addL o.dst (res.ren π) A) (renO π Lc' ++ L)) : TL P Γ N ops Q (o :: l) A L := by
  intro a w hs
  refine wpList_plain hg fun K hK => ?_
  refine Oper.wp_mono (fun a1 w1 hs1 => hK a1 w1 (k a1 w1 ?_)) (callop_sat (fun _ _ h => h) hF h hC hf π hys (fun k oc hk => hc.sub.get _ _ (getO_ren (fun a ha b hb => hc.inj a (hc.k1 a ha) b (hc.k1 b hb)) k oc hk)) hc.k1 hc.inj hc.told
    (fun k hk hge => by
      obtain ⟨g1, g2, g3, g4⟩ := hc.new k hk hge
      exact ⟨g1, g2, freshA_ok g3, freshL_ok g4⟩) hd hs)
  rw [addL_get, getO_append]
  exact hs1
end

end Go.Fo
