/- Regions whose order is open: the reckoning, operation by operation. -/
import Derived.Test.YtcaehpgdcjonfaaKy
namespace Go.Fo

def fnOf (l : List De) (j : Nat) : De := l.getD j ([], [])

/-- one operation of a drawn region, over what goes before it -/
def evalA (tab : Nat → Option TI) (N : Nat) (r : Rg) (l : List De) (A : List (Nat × MV)) (L : List (Nat × Option MObj)) (i : Nat) : Option (De × Prop) :=
  match r.ops[i]? with
  | none => none
  | some o => match o.guard, o.dst with
    | none, some d => if d < N then (match pureD tab (viewA r (fnOf l) A i) (viewL r (fnOf l) L i) none o.op with
      | some (x, C) => some (([(d, x)], []), C)
      | none => (match heapD tab (viewA r (fnOf l) A i) (viewL r (fnOf l) L i) none (1000 + d) o.op with
        | some (x, U, fr, C) => if fr && (r.nk i).contains (1000 + d) && U.all (fun q => (r.wk i).contains q.1) then some (([(d, x)], U), C) else none
        | none => none)) else none
    | none, none => (match heapD tab (viewA r (fnOf l) A i) (viewL r (fnOf l) L i) none 1000 o.op with
      | some (_, U, fr, C) => if !fr && U.all (fun q => (r.wk i).contains q.1) then some (([], U), C) else none
      | none => none)
    | some (j, want), some d => if d < N then (match (r.ops[j]?).bind (·.dst) with
      | some dj => (match get (viewA r (fnOf l) A i) dj with
        | some (.bool b) => (match pureD tab (viewA r (fnOf l) A i) (viewL r (fnOf l) L i) (some (if want then b else !b)) o.op with
          | some (x, C) => some (([(d, .cnd (if want then b else !b) x)], []), (if want then b else !b) = true → C)
          | none => none)
        | some (.cnd t (.bool b)) => (match pureD tab (viewA r (fnOf l) A i) (viewL r (fnOf l) L i) (some (t && (if want then b else !b))) o.op with
          | some (x, C) => some (([(d, .cnd (t && (if want then b else !b)) x)], []), (t && (if want then b else !b)) = true → C)
          | none => none)
        | _ => none)
      | none => none) else none
    | _, _ => none

/-- what is owed of one operation's addition -/
def De.ok (r : Rg) (i : Nat) (δ : De) : Prop := (∀ s, hasK δ.1 s = true → r.dst i = some s) ∧ ∀ k, hasK δ.2 k = true → k ∈ r.wk i

theorem addsA_one (d : Nat) (x : MV) (A : Nat → Option MV) : addsA [(d, x)] A = addA (some d) x A := by
  funext s
  simp only [addsA, addA, hasK, List.any_cons, List.any_nil, Bool.or_false, get]
  by_cases e : (d == s) = true
  · simp [e]
  · simp [e]
theorem addsA_nil (A : Nat → Option MV) : addsA [] A = A := by
  funext s; simp [addsA, hasK]

theorem dst_of {r : Rg} {i : Nat} {o : Oper} (h : r.ops[i]? = some o) : r.dst i = o.dst := by simp [Rg.dst, h]

theorem hasK_all {U : List (Nat × Option MObj)} {l : List Nat} (h : U.all (fun q => l.contains q.1) = true) : ∀ k, hasK U k = true → k ∈ l := by
  intro k hk
  simp only [hasK, List.any_eq_true, beq_iff_eq] at hk
  obtain ⟨q, hq, rfl⟩ := hk
  have := List.all_eq_true.1 h q hq
  simpa using this

/-- the view of an operation hangs on what goes before it alone -/
def OpAt (P : Program) (Γ : Gd) (N : Nat) (Q : Exit → Act → World → Prop) (r : Rg) (vA : List (Nat × MV)) (vL : List (Nat × Option MObj)) (δ : De) (i : Nat) : Prop :=
  ∀ (Af : Nat → Option MV) (Lf : Nat → Option MObj) (a : Act) (w : World), (∀ s x, get vA s = some x → Af s = some x) → (∀ k o, getO vL k = some o → Lf k = some o) →
    (∀ kd ∈ r.nk i, (∀ s x, Af s = some x → x.has kd = false) ∧ ∀ k o, Lf k = some o → o.has kd = false ∧ k ≠ kd) → Sat Γ N Af Lf a w →
    ∀ K : Act → World → Prop, (∀ a w, Sat Γ N (addsA δ.1 Af) (updO δ.2 Lf) a w → K a w) → wpOp P r.ops Q i K a w

theorem wpOp_plain {P : Program} {Q : Exit → Act → World → Prop} {ops : Array Oper} {i : Nat} {o : Oper} (h : ops[i]? = some o) (hg : o.guard = none) {K : Act → World → Prop} {a : Act} {w : World} (hw : o.wp P a w K Q) : wpOp P ops Q i K a w := by
  unfold wpOp
  rw [h]
  simp only [Region.wanted, hg, if_true]
  exact .inl hw

theorem evalA_ok {P : Program} (E : Env P) {Γ : Gd} {N : Nat} {Q : Exit → Act → World → Prop} {r : Rg} {l : List De} {A : List (Nat × MV)} {L : List (Nat × Option MObj)} {i : Nat} {δ : De} {C : Prop} (h : evalA E.tab N r l A L i = some (δ, C)) (hC : C) :
    OpAt P Γ N Q r (viewA r (fnOf l) A i) (viewL r (fnOf l) L i) δ i ∧ De.ok r i δ := by
  unfold evalA at h
  split at h
  · cases h
  rename_i o ho
  have hdst := dst_of ho
  split at h
  · rename_i d hg hd
    split at h
    case isFalse => cases h
    rename_i hdN
    have one : ∀ (x : MV) (U : List (Nat × Option MObj)) (s : Nat), hasK [(d, x)] s = true → r.dst i = some s := fun x U s hs => by
      simp only [hasK, List.any_cons, List.any_nil, Bool.or_false, beq_iff_eq] at hs; subst hs; rw [hdst, hd]
    split at h
    · rename_i x D hp
      simp only [Option.some.injEq, Prod.mk.injEq] at h; obtain ⟨rfl, rfl⟩ := h
      refine ⟨fun Af Lf a w hA hL _ hs K hK => wpOp_plain ho hg (Oper.wp_mono (fun a1 w1 hs1 => hK a1 w1 ?_) (pure_sat E hA hL hp hC (fun d' e => by rw [hd] at e; cases e; exact hdN) hs Q)), one x [], fun k hk => by simp [hasK] at hk⟩
      rw [hd] at hs1
      simp only [addsA_one]; exact hs1
    · split at h
      · rename_i x U fr D hp
        split at h
        · rename_i hc
          simp only [Bool.and_eq_true] at hc
          simp only [Option.some.injEq, Prod.mk.injEq] at h; obtain ⟨rfl, rfl⟩ := h
          have hnk : 1000 + d ∈ r.nk i := by simpa using hc.1.2
          refine ⟨fun Af Lf a w hA hL hf hs K hK => wpOp_plain ho hg (Oper.wp_mono (fun a1 w1 hs1 => hK a1 w1 ?_) (heap_sat E hA hL hp hC (fun d' e => by rw [hd] at e; cases e; exact hdN) (fun e => by rw [e] at hc; simp at hc) (fun _ => by omega) (fun _ k o hk _ => ((hf _ hnk).2 k o hk).1) (fun _ => (hf _ hnk).1) hs Q)), one x U, hasK_all hc.2⟩
          rw [hd] at hs1
          simp only [addsA_one]; exact hs1
        · cases h
      · cases h
  · rename_i hg hd
    split at h
    · rename_i x U fr D hp
      split at h
      · rename_i hc
        simp only [Bool.and_eq_true, Bool.not_eq_true'] at hc
        simp only [Option.some.injEq, Prod.mk.injEq] at h; obtain ⟨rfl, rfl⟩ := h
        refine ⟨fun Af Lf a w hA hL hf hs K hK => wpOp_plain ho hg (Oper.wp_mono (fun a1 w1 hs1 => hK a1 w1 ?_) (heap_sat E hA hL hp hC (fun d' e => by rw [hd] at e; cases e) (fun _ => hd) (fun e => by rw [hc.1] at e; cases e) (fun e => by rw [hc.1] at e; cases e) (fun e => by rw [hc.1] at e; cases e) hs Q)), fun s hs => by simp [hasK] at hs, hasK_all hc.2⟩
        rw [hd] at hs1
        simp only [addsA_nil]; exact hs1
      · cases h
    · cases h
  · rename_i j want d hg hd
    split at h
    case isFalse => cases h
    rename_i hdN
    have one : ∀ (x : MV) (s : Nat), hasK [(d, x)] s = true → r.dst i = some s := fun x s hs => by
      simp only [hasK, List.any_cons, List.any_nil, Bool.or_false, beq_iff_eq] at hs; subst hs; rw [hdst, hd]
    split at h
    · rename_i dj hdj
      obtain ⟨oj, hoj, hdj'⟩ := Option.bind_eq_some_iff.1 hdj
      have fin : ∀ (g : Bool) (x : MV) (D : Prop), (∀ (Af : Nat → Option MV) (Lf : Nat → Option MObj), (∀ s x, get (viewA r (fnOf l) A i) s = some x → Af s = some x) → (∀ k o, getO (viewL r (fnOf l) L i) k = some o → Lf k = some o) → ∀ a w, Sat Γ N Af Lf a w → ∀ K : Act → World → Prop,
          (∀ a w, Sat Γ N (addA (some d) (.cnd g x) Af) Lf a w → K a w) → if Region.wanted o (yielded r.ops a.tmps) then o.wp P a w K Q else K (a.put o.dst undef) w) → OpAt P Γ N Q r (viewA r (fnOf l) A i) (viewL r (fnOf l) L i) ([(d, .cnd g x)], []) i := by
        intro g x D hh Af Lf a w hA hL _ hs K hK
        have := hh Af Lf hA hL a w hs K (fun a1 w1 hs1 => hK a1 w1 (by simp only [addsA_one]; exact hs1))
        unfold wpOp
        rw [ho]; simp only
        split
        · rename_i hw; rw [if_pos hw] at this; exact .inl this
        · rename_i hw; rw [if_neg hw] at this; exact this
      split at h
      · rename_i b hb
        split at h
        · rename_i x D hp
          simp only [Option.some.injEq, Prod.mk.injEq] at h; obtain ⟨rfl, rfl⟩ := h
          exact ⟨fin _ x D (fun Af Lf hA hL a w hs K hK => guard_sat E hA hL hg hoj hdj' (.inl ⟨b, hb, rfl⟩) hp hC hd hdN hs Q K hK), one _, fun k hk => by simp [hasK] at hk⟩
        · cases h
      · rename_i t b hb
        split at h
        · rename_i x D hp
          simp only [Option.some.injEq, Prod.mk.injEq] at h; obtain ⟨rfl, rfl⟩ := h
          exact ⟨fin _ x D (fun Af Lf hA hL a w hs K hK => guard_sat E hA hL hg hoj hdj' (.inr ⟨t, b, hb, rfl⟩) hp hC hd hdN hs Q K hK), one _, fun k hk => by simp [hasK] at hk⟩
        · cases h
      · cases h
    · cases h
  · cases h

/-- a call of a drawn region -/
theorem callA_ok {P : Program} {Γ : Gd} {N : Nat} {Q : Exit → Act → World → Prop} {r : Rg} {vA : List (Nat × MV)} {vL : List (Nat × Option MObj)} {i : Nat} {o : Oper} (ho : r.ops[i]? = some o) {f : FuncId} {xs ys : List MV} {Lc Lc' : List (Nat × Option MObj)} {res : MV} {C : Prop} (π : Nat → Nat) (hF : Fn P f xs Lc res Lc')
    (h : calleeM vA o.op = some (f, ys, C)) (hC : C) (hf : fnb P f = true) (hg : o.guard = none) (hys : ys = MV.renL π xs) (hd : ∀ d, o.dst = some d → d < N) (hsub : SubL (renO π Lc) vL) (hk1 : ∀ k ∈ keysO Lc, k ∈ keysO Lc') (hinj : ∀ a ∈ keysO Lc', ∀ b ∈ keysO Lc', π a = π b → a = b)
    (htold : toldB (keysO Lc') res Lc') (hnew : ∀ k ∈ keysO Lc', 1000 ≤ k → 1000 ≤ π k ∧ k ∉ keysO Lc ∧ π k ∈ r.nk i) (hwk : ∀ k ∈ keysO Lc', π k ∈ r.wk i) :
    OpAt P Γ N Q r vA vL (addL o.dst (res.ren π) [], renO π Lc') i ∧ De.ok r i (addL o.dst (res.ren π) [], renO π Lc') := by
  refine ⟨fun Af Lf a w hA hL hf2 hs K hK => wpOp_plain ho hg (Oper.wp_mono (fun a1 w1 hs1 => hK a1 w1 ?_) (callop_sat hA hF h hC hf π hys (fun k oc hk => hL _ _ (hsub.get _ _ (getO_ren (fun a ha b hb => hinj a (hk1 a ha) b (hk1 b hb)) k oc hk))) hk1 hinj htold
    (fun k hk hge => by
      obtain ⟨g1, g2, g3⟩ := hnew k hk hge
      exact ⟨g1, g2, (hf2 _ g3).1, (hf2 _ g3).2⟩) hd hs)), fun s hs => ?_, fun k hk => ?_⟩
  · have : addsA (addL o.dst (res.ren π) []) Af = addA o.dst (res.ren π) Af := by
      cases o.dst with
      | none => exact addsA_nil Af
      | some d => exact addsA_one d _ Af
    simp only [this]; exact hs1
  · rw [dst_of ho]
    cases hd' : o.dst with
    | none => rw [hd'] at hs; simp [addL, hasK] at hs
    | some d =>
      rw [hd'] at hs
      simp only [addL, hasK, List.any_cons, List.any_nil, Bool.or_false, beq_iff_eq] at hs; rw [hs]
  · simp only [hasK, renO, List.any_map, List.any_eq_true, Function.comp_apply, beq_iff_eq] at hk
    obtain ⟨q, hq, rfl⟩ := hk
    exact hwk q.1 (by simp only [keysO, List.mem_map]; exact ⟨q, hq, rfl⟩)

/-- on the way through a drawn region -/
def AJ (P : Program) (Γ : Gd) (N : Nat) (Q : Exit → Act → World → Prop) (r : Rg) (A : List (Nat × MV)) (L : List (Nat × Option MObj)) (G : Prop) (l : List De) : Prop :=
  (∀ i, i < l.length → OpOK P Γ N Q r (fnOf l) A L i ∧ De.ok r i (fnOf l i)) → G

theorem fnOf_app {l : List De} {δ : De} {j : Nat} (h : j < l.length) : fnOf (l ++ [δ]) j = fnOf l j := by
  simp [fnOf, List.getD_eq_getElem?_getD, List.getElem?_append_left h]
theorem fnOf_last {l : List De} {δ : De} : fnOf (l ++ [δ]) l.length = δ := by
  simp [fnOf, List.getD_eq_getElem?_getD]

theorem flatMap_congr {α β : Type} {f g : α → List β} : ∀ {l : List α}, (∀ x ∈ l, f x = g x) → l.flatMap f = l.flatMap g
  | [], _ => rfl
  | x :: l, h => by
    rw [List.flatMap_cons, List.flatMap_cons, h x (by simp), flatMap_congr (fun y hy => h y (by simp [hy]))]

theorem AJ_step {P : Program} {Γ : Gd} {N : Nat} {Q : Exit → Act → World → Prop} {r : Rg} (hr : r.ok = true) {A : List (Nat × MV)} {L : List (Nat × Option MObj)} {G : Prop} {l : List De} {δ : De} (hl : l.length < r.ops.size)
    (h : OpAt P Γ N Q r (viewA r (fnOf l) A l.length) (viewL r (fnOf l) L l.length) δ l.length ∧ De.ok r l.length δ) (k : AJ P Γ N Q r A L G (l ++ [δ])) : AJ P Γ N Q r A L G l := by
  intro hall
  refine k (fun i hi => ?_)
  have hpre : ∀ i, i ≤ l.length → viewA r (fnOf (l ++ [δ])) A i = viewA r (fnOf l) A i ∧ viewL r (fnOf (l ++ [δ])) L i = viewL r (fnOf l) L i := by
    intro i hi
    have hp : ∀ j ∈ r.pre i, fnOf (l ++ [δ]) j = fnOf l j := fun j hj => fnOf_app (by have := ((r.edges hr (i := i) (by omega)).2.1 j hj).1; omega)
    unfold viewA viewL
    rw [flatMap_congr (fun j hj => by rw [hp j hj]), flatMap_congr (f := fun j => (fnOf (l ++ [δ]) j).2) (g := fun j => (fnOf l j).2) (fun j hj => by rw [hp j hj])]
    exact ⟨rfl, rfl⟩
  simp only [List.length_append, List.length_cons, List.length_nil] at hi
  rcases Nat.lt_or_ge i l.length with hlt | hge
  · obtain ⟨h1, h2⟩ := hall i hlt
    unfold OpOK at h1 ⊢
    rw [(hpre i (by omega)).1, (hpre i (by omega)).2, fnOf_app hlt]
    exact ⟨h1, h2⟩
  · have : i = l.length := by omega
    subst this
    unfold OpOK
    rw [(hpre l.length (Nat.le_refl _)).1, (hpre l.length (Nat.le_refl _)).2, fnOf_last]
    exact h

theorem AJ_ev {P : Program} (E : Env P) {Γ : Gd} {N : Nat} {Q : Exit → Act → World → Prop} {r : Rg} (hr : r.ok = true) {A : List (Nat × MV)} {L : List (Nat × Option MObj)} {G : Prop} {l : List De} (i : Nat) {δ : De} {C : Prop} (hi : l.length = i) (hn : i < r.ops.size) (h : evalA E.tab N r l A L i = some (δ, C)) (hC : C)
    (k : AJ P Γ N Q r A L G (l ++ [δ])) : AJ P Γ N Q r A L G l := by
  subst hi; exact AJ_step hr hn (evalA_ok E h hC) k

/-- no new key is mentioned where it may not be yet -/
def frB (r : Rg) (l : List De) (A : List (Nat × MV)) (L : List (Nat × Option MObj)) : Bool :=
  (List.range r.ops.size).all fun i => (r.nk i).all fun kd => freshA kd A && freshL kd L && (List.range r.ops.size).all fun j => j == i || (r.pre j).contains i || (freshA kd (fnOf l j).1 && freshL kd (fnOf l j).2)

theorem AJ_end {P : Program} {Γ : Gd} {N : Nat} {Q : Exit → Act → World → Prop} {r : Rg} (hm : P.follows .mixedOrders = true) (hr : r.ok = true) {A : List (Nat × MV)} {L : List (Nat × Option MObj)} {id : Nat} {l : List De} (hl : l.length = r.ops.size) (hf : frB r l A L = true)
    (fin : TE Γ N (Q .normal) (allA r.ops.size (fnOf l) A) (allL r.ops.size (fnOf l) L)) : AJ P Γ N Q r A L (TC P Γ N (.region id r.ops true) Q A L) l := by
  intro hall
  refine TC_any hm hr ⟨fun i hi s hs => (hall i (by omega)).2.1 s hs, fun i hi k hk => (hall i (by omega)).2.2 k hk, fun i hi kd hkd => ?_, fun i hi kd hkd j hj hne hnp => ?_⟩ (fun i hi => (hall i (by omega)).1) fin
  · simp only [frB, List.all_eq_true, List.mem_range, Bool.and_eq_true] at hf
    exact (hf i hi kd hkd).1
  · simp only [frB, List.all_eq_true, List.mem_range, Bool.and_eq_true, Bool.or_eq_true, beq_iff_eq, List.contains_iff_mem] at hf
    exact ((hf i hi kd hkd).2 j hj).resolve_left (fun e => e.elim hne hnp)

theorem TC_draw {P : Program} {Γ : Gd} {N : Nat} {Q : Exit → Act → World → Prop} (r : Rg) {A : List (Nat × MV)} {L : List (Nat × Option MObj)} {id : Nat} (h : AJ P Γ N Q r A L (TC P Γ N (.region id r.ops true) Q A L) []) : TC P Γ N (.region id r.ops true) Q A L :=
  h (fun i hi => by simp at hi)

end Go.Fo
