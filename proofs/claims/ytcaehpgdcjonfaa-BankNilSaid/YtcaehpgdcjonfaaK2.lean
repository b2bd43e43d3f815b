/- Keys anew in one go, calls with their conditions reckoned, guards whose value is known. -/
import Derived.Test.YtcaehpgdcjonfaaK1
namespace Go.Fo

/-- keys anew, by a list -/
def sg : List (Nat × Nat) → Nat → Nat
  | [], k => k
  | (a, b) :: l, k => if k == a then b else sg l k
theorem sg_low : ∀ {l : List (Nat × Nat)}, (l.all fun q => decide (1000 ≤ q.1)) = true → ∀ k, k < 1000 → sg l k = k
  | [], _, _, _ => rfl
  | (a, b) :: l, h, k, hk => by
    simp only [List.all_cons, Bool.and_eq_true, decide_eq_true_eq] at h
    have : (k == a) = false := by rw [beq_eq_false_iff_ne]; omega
    simp only [sg, this, Bool.false_eq_true, if_false]
    exact sg_low h.2 k hk
def injB (σ : Nat → Nat) (ks : List Nat) : Bool := ks.all fun a => ks.all fun b => !(σ a == σ b) || a == b
theorem injB_ok {σ : Nat → Nat} {ks : List Nat} (h : injB σ ks = true) : ∀ a ∈ ks, ∀ b ∈ ks, σ a = σ b → a = b := by
  intro a ha b hb e
  unfold injB at h
  rw [List.all_eq_true] at h
  have := h a ha
  rw [List.all_eq_true] at this
  have := this b hb
  rw [e] at this
  simpa using this
def sgB (l : List (Nat × Nat)) (ks : List Nat) : Bool := (l.all fun q => decide (1000 ≤ q.1)) && injB (sg l) ks

section
variable {P : Program} {Γ : Gd} {N : Nat} {Q : Exit → Act → World → Prop} {A A' : List (Nat × MV)} {L L' : List (Nat × Option MObj)}

theorem SP_ren {α : Type} {p : α → Prop} {SA : α → List (Nat × MV)} {SL : α → List (Nat × Option MObj)} (l : List (Nat × Nat)) (x : α) (hp : p x) (hA : SubAr (sg l) (SA x) A) (hL : SubLr (sg l) (SL x) L) (hb : sgB l (keysO (SL x)) = true) : TE Γ N (SP Γ N p SA SL) A L := by
  simp only [sgB, Bool.and_eq_true] at hb
  exact fun a w hs => ⟨x, hp, hs.ren (sg l) hA hL (injB_ok hb.2) (sg_low hb.1)⟩
theorem TE_nextr {α : Type} {p : Nat → α → Prop} {SA : α → List (Nat × MV)} {SL : α → List (Nat × Option MObj)} {n : Nat} (l : List (Nat × Nat)) (n' : Nat) (hlt : n' < n) (x : α) (hp : p n' x) (hA : SubAr (sg l) (SA x) A) (hL : SubLr (sg l) (SL x) L) (hb : sgB l (keysO (SL x)) = true) :
    TE Γ N (fun a w => ∃ n', n' < n ∧ SP Γ N (p n') SA SL a w) A L := by
  simp only [sgB, Bool.and_eq_true] at hb
  exact fun a w hs => ⟨n', hlt, x, hp, hs.ren (sg l) hA hL (injB_ok hb.2) (sg_low hb.1)⟩
/-- a part of a state, under other keys -/
theorem TC_renw {c : Code} (l : List (Nat × Nat)) (hA : SubAr (sg l) A' A) (hL : SubLr (sg l) L' L) (hb : sgB l (keysO L') = true) (h : TC P Γ N c Q A' L') : TC P Γ N c Q A L := by
  simp only [sgB, Bool.and_eq_true] at hb
  exact fun a w hs => h a w (hs.ren (sg l) hA hL (injB_ok hb.2) (sg_low hb.1))
end

-- the keys of a value are among these
mutual
def MV.tld (ks : List Nat) : MV → Bool
  | .p k _ => ks.contains k
  | .pe k _ _ => ks.contains k
  | .sl k => ks.contains k
  | .hd k _ => ks.contains k
  | .sv k _ => ks.contains k
  | .pf k _ _ => ks.contains k
  | .agg l => MV.tldL ks l
  | .tup l => MV.tldL ks l
  | .fn _ l => MV.tldL ks l
  | .ifc _ x => x.tld ks
  | .cnd _ x => x.tld ks
  | _ => true
def MV.tldL (ks : List Nat) : List MV → Bool
  | [] => true
  | x :: l => x.tld ks && MV.tldL ks l
end
mutual
theorem tld_has {ks : List Nat} {d : Nat} : ∀ x : MV, x.tld ks = true → x.has d = true → d ∈ ks
  | .p k _, h, e => by simp only [MV.tld, MV.has, List.contains_iff_mem, beq_iff_eq] at h e; exact e ▸ h
  | .pe k _ _, h, e => by simp only [MV.tld, MV.has, List.contains_iff_mem, beq_iff_eq] at h e; exact e ▸ h
  | .sl k, h, e => by simp only [MV.tld, MV.has, List.contains_iff_mem, beq_iff_eq] at h e; exact e ▸ h
  | .hd k _, h, e => by simp only [MV.tld, MV.has, List.contains_iff_mem, beq_iff_eq] at h e; exact e ▸ h
  | .sv k _, h, e => by simp only [MV.tld, MV.has, List.contains_iff_mem, beq_iff_eq] at h e; exact e ▸ h
  | .pf k _ _, h, e => by simp only [MV.tld, MV.has, List.contains_iff_mem, beq_iff_eq] at h e; exact e ▸ h
  | .agg l, h, e => tldL_has l h e
  | .tup l, h, e => tldL_has l h e
  | .fn _ l, h, e => tldL_has l h e
  | .ifc _ x, h, e => tld_has x h e
  | .cnd _ x, h, e => tld_has x h e
  | .int _ _, _, e => by cases e
  | .bool _, _, e => by cases e
  | .str _, _, e => by cases e
  | .nilp, _, e => by cases e
  | .nils, _, e => by cases e
  | .nilf, _, e => by cases e
  | .nili, _, e => by cases e
  | .nilm, _, e => by cases e
  | .im _ _, _, e => by cases e
  | .pim _ _, _, e => by cases e
  | .raw _, _, e => by cases e
theorem tldL_has {ks : List Nat} {d : Nat} : ∀ l : List MV, MV.tldL ks l = true → MV.hasL d l = true → d ∈ ks
  | [], _, e => by cases e
  | x :: l, h, e => by
    simp only [MV.tldL, MV.hasL, Bool.and_eq_true, Bool.or_eq_true] at h e
    exact e.elim (tld_has x h.1) (tldL_has l h.2)
end
def MObj.tld (ks : List Nat) : MObj → Bool
  | .cells cs => MV.tldL ks cs
  | .rows _ _ => true
  | .ab _ => true
  | .foc _ cs _ => MV.tldL ks cs
def tldB (ks : List Nat) (x : MV) (L : List (Nat × Option MObj)) : Bool := x.tld ks && L.all fun q => match q.2 with | some o => o.tld ks | none => true
theorem tldB_ok {ks : List Nat} {x : MV} {L : List (Nat × Option MObj)} (h : tldB ks x L = true) : toldB ks x L := by
  simp only [tldB, Bool.and_eq_true] at h
  refine ⟨fun d => tld_has x h.1, fun k o ho d hd => ?_⟩
  have h2 := h.2
  clear h
  induction L with
  | nil => simp [getO] at ho
  | cons q L ih =>
    obtain ⟨k', o'⟩ := q
    simp only [List.all_cons, Bool.and_eq_true] at h2
    simp only [getO] at ho
    split at ho
    · subst ho
      cases o with
      | cells cs => exact tldL_has cs h2.1 hd
      | rows _ _ => cases hd
      | ab _ => cases hd
      | foc p cs q => exact tldL_has cs h2.1 hd
    · exact ih ho h2.2

def callB (π : Nat → Nat) (N : Nat) (dst : Option Nat) (g : Bool) (A : List (Nat × MV)) (L Lc Lc' : List (Nat × Option MObj)) (res : MV) : Bool :=
  g && (match dst with | some d => decide (d < N) | none => true) && ((keysO Lc).all fun k => (keysO Lc').contains k) && injB π (keysO Lc') && tldB (keysO Lc') res Lc' &&
    (keysO Lc').all fun k => decide (k < 1000) || (decide (1000 ≤ π k) && !(keysO Lc).contains k && freshA (π k) A && freshL (π k) L)

theorem fnb_of {P : Program} {f : FuncId} {fn : Func} (h : P.funcs[f]? = some fn) (hb : (fn.body.isSome && !(fn.name == "runtime.NumGoroutine")) = true) : fnb P f = true := by unfold fnb; rw [h]; exact hb

section
variable {P : Program} {Γ : Gd} {N : Nat} {Q : Exit → Act → World → Prop} {A A' : List (Nat × MV)} {L L' : List (Nat × Option MObj)}

theorem TL_callB {ops : Array Oper} {o : Oper} {l : List Oper} {f : FuncId} {xs ys : List MV} {Lc Lc' : List (Nat × Option MObj)} {res : MV} {C : Prop} (π : List (Nat × Nat)) (hF : Fn P f xs Lc res Lc') (hf : fnb P f = true) (h : calleeM A o.op = some (f, ys, C)) (hC : C) (hys : ys = MV.renL (sg π) xs)
    (hs : SubL (renO (sg π) Lc) L) (hb : callB (sg π) N o.dst o.guard.isNone A L Lc Lc' res = true) (k : TL P Γ N ops Q l (addL o.dst (res.ren (sg π)) A) (renO (sg π) Lc' ++ L)) : TL P Γ N ops Q (o :: l) A L := by
  simp only [callB, Bool.and_eq_true, List.all_eq_true, List.contains_iff_mem, Bool.or_eq_true, decide_eq_true_eq, Bool.not_eq_true', Option.isNone_iff_eq_none] at hb
  obtain ⟨⟨⟨⟨⟨b1, b2⟩, b3⟩, b4⟩, b5⟩, b6⟩ := hb
  refine TL_call (sg π) hF h hC hf b1 hys (fun d e => by rw [e] at b2; simpa using b2) ⟨hs, b3, injB_ok b4, tldB_ok b5, fun k hk hge => ?_⟩ k
  rcases b6 k hk with b | ⟨⟨⟨c1, c2⟩, c3⟩, c4⟩
  · omega
  · exact ⟨c1, fun e => (by rw [List.contains_iff_mem.2 e] at c2; cases c2), c3, c4⟩

/-- what is known of a truth -/
theorem TL_split {ops : Array Oper} {l : List Oper} (s : Nat) {b : Bool} (h : get A s = some (.bool b)) (ht : b = true → TL P Γ N ops Q l ((s, .bool true) :: A) L) (hf : b = false → TL P Γ N ops Q l ((s, .bool false) :: A) L) : TL P Γ N ops Q l A L := by
  intro a w hs
  have key : ∀ c, b = c → Sat Γ N (get ((s, .bool c) :: A)) (getO L) a w := fun c e => hs.weak (fun t x hx => by
    simp only [get] at hx
    split at hx
    · rename_i e'; have := beq_iff_eq.1 e'; subst this; rw [h, e]; exact hx
    · exact hx) (fun _ _ h => h)
  cases hb : b with
  | true => exact ht hb a w (key true hb)
  | false => exact hf hb a w (key false hb)

theorem wanted_eq {ops : Array Oper} {o oj : Oper} {j dj : Nat} {want b : Bool} (hg : o.guard = some (j, want)) (hj : ops[j]? = some oj) (hdj : oj.dst = some dj) (hv : get A dj = some (.bool b)) {a : Act} {w : World} (hs : Sat Γ N (get A) (getO L) a w) :
    Region.wanted o (yielded ops a.tmps) = (if want then b else !b) := by
  obtain ⟨h1, h2, ρ, m, h3, _⟩ := hs
  unfold Region.wanted
  rw [hg]
  simp only [yielded, hj, Option.bind_some, hdj]
  obtain ⟨v, hv, hc⟩ := h3 dj _ hv
  simp only [Cv] at hc; subst hc
  rw [hv]; cases want <;> cases b <;> rfl

theorem execOp_bare (ρ : Operand → Value) (o : Oper) : execOp ρ { o with guard := none } = execOp ρ o := by
  obtain ⟨dst, op, ty, pos, after, guard⟩ := o
  cases op <;> rfl

/-- a guard that is met -/
theorem TL_gt {ops : Array Oper} {o oj : Oper} {l : List Oper} {j dj : Nat} {want : Bool} (hg : o.guard = some (j, want)) (hj : ops[j]? = some oj) (hdj : oj.dst = some dj) (hv : get A dj = some (.bool want))
    (k : TL P Γ N ops Q ({ o with guard := none } :: l) A L) : TL P Γ N ops Q (o :: l) A L := by
  intro a w hs
  have := k a w hs
  have hw : Region.wanted o (yielded ops a.tmps) = true := by rw [wanted_eq hg hj hdj hv hs]; cases want <;> rfl
  unfold wpList at this ⊢
  rw [if_pos hw]
  rw [if_pos (show Region.wanted { o with guard := none } (yielded ops a.tmps) = true from rfl)] at this
  unfold Oper.wp Oper.asks at this ⊢
  rw [execOp_bare] at this
  exact this
/-- a guard that is not met -/
theorem TL_gf (x : MV) {ops : Array Oper} {o oj : Oper} {l : List Oper} {j dj d : Nat} {want : Bool} (hg : o.guard = some (j, want)) (hj : ops[j]? = some oj) (hdj : oj.dst = some dj) (hv : get A dj = some (.bool !want)) (hd : o.dst = some d) (hdN : d < N)
    (k : TL P Γ N ops Q l ((d, .cnd false x) :: A) L) : TL P Γ N ops Q (o :: l) A L := by
  intro a w hs
  refine wpList_step fun K hK => ?_
  rw [if_neg (by rw [wanted_eq hg hj hdj hv hs]; cases want <;> simp), hd]
  refine hK _ _ (k _ _ ?_)
  obtain ⟨h1, h2, ρ, m, h3, h4, h5, h6⟩ := hs
  refine ⟨by rw [put_size]; exact h1, by rw [put_defers]; exact h2, ρ, m, fun s y hx => ?_, h4, h5, h6⟩
  have hc : Cv ρ m (.cnd false x) undef := ⟨fun e => (by cases e), fun _ => rfl⟩
  exact slots_put (Mle.refl m) (ρ' := ρ) h3 (v := undef) (x := .cnd false x) (dst := some d) (fun d' e => by cases e; rw [h1]; exact hdN) (fun _ => hc) (fun _ _ _ _ _ => rfl) s y hx
theorem TL_gf0 {ops : Array Oper} {o oj : Oper} {l : List Oper} {j dj : Nat} {want : Bool} (hg : o.guard = some (j, want)) (hj : ops[j]? = some oj) (hdj : oj.dst = some dj) (hv : get A dj = some (.bool !want)) (hd : o.dst = none)
    (k : TL P Γ N ops Q l A L) : TL P Γ N ops Q (o :: l) A L := by
  intro a w hs
  refine wpList_step fun K hK => ?_
  rw [if_neg (by rw [wanted_eq hg hj hdj hv hs]; cases want <;> simp), hd]
  exact hK _ _ (k _ _ hs)
end

end Go.Fo
