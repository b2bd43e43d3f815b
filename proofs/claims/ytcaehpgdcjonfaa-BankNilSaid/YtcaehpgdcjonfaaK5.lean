/- Regions of open order once more: the views as short lists, quickly reckoned. -/
import Derived.Test.YtcaehpgdcjonfaaK4
namespace Go.Fo

/-- one operation of a drawn region, over what goes before it -/
def evalV (tab : Nat → Option TI) (N : Nat) (r : Rg) (vA : List (Nat × MV)) (vL : List (Nat × Option MObj)) (i : Nat) : Option (De × Prop) :=
  match r.ops[i]? with
  | none => none
  | some o => match o.guard, o.dst with
    | none, some d => if d < N then (match pureD tab vA vL none o.op with
      | some (x, C) => some (([(d, x)], []), C)
      | none => (match heapD tab vA vL none (1000 + d) o.op with
        | some (x, U, fr, C) => if fr && (r.nk i).contains (1000 + d) && U.all (fun q => (r.wk i).contains q.1) then some (([(d, x)], U), C) else none
        | none => none)) else none
    | none, none => (match heapD tab vA vL none 1000 o.op with
      | some (_, U, fr, C) => if !fr && U.all (fun q => (r.wk i).contains q.1) then some (([], U), C) else none
      | none => none)
    | some (j, want), some d => if d < N then (match (r.ops[j]?).bind (·.dst) with
      | some dj => (match get vA dj with
        | some (.bool b) => (match pureD tab vA vL (some (if want then b else !b)) o.op with
          | some (x, C) => some (([(d, .cnd (if want then b else !b) x)], []), (if want then b else !b) = true → C)
          | none => none)
        | some (.cnd t (.bool b)) => (match pureD tab vA vL (some (t && (if want then b else !b))) o.op with
          | some (x, C) => some (([(d, .cnd (t && (if want then b else !b)) x)], []), (t && (if want then b else !b)) = true → C)
          | none => none)
        | _ => none)
      | none => none) else none
    | _, _ => none

theorem evalV_ok {P : Program} (E : Env P) {Γ : Gd} {N : Nat} {Q : Exit → Act → World → Prop} {r : Rg} {vA : List (Nat × MV)} {vL : List (Nat × Option MObj)} {i : Nat} {δ : De} {C : Prop} (h : evalV E.tab N r vA vL i = some (δ, C)) (hC : C) :
    OpAt P Γ N Q r vA vL δ i ∧ De.ok r i δ := by
  unfold evalV at h
  split at h
  · cases h
  rename_i o ho
  have hdst := dst_of ho
  split at h
  · rename_i d hg hd
    split at h
    case isFalse => cases h
    rename_i hdN
    have one : ∀ (x : MV) (U : List (Nat × Option MObj)) (s : Nat), hasK [(d, x)] s = true → r.dst i = some s := fun x U s hs => by
      simp only [hasK, List.any_cons, List.any_nil, Bool.or_false, beq_iff_eq] at hs; subst hs; rw [hdst, hd]
    split at h
    · rename_i x D hp
      simp only [Option.some.injEq, Prod.mk.injEq] at h; obtain ⟨rfl, rfl⟩ := h
      refine ⟨fun Af Lf a w hA hL _ hs K hK => wpOp_plain ho hg (Oper.wp_mono (fun a1 w1 hs1 => hK a1 w1 ?_) (pure_sat E hA hL hp hC (fun d' e => by rw [hd] at e; cases e; exact hdN) hs Q)), one x [], fun k hk => by simp [hasK] at hk⟩
      rw [hd] at hs1
      simp only [addsA_one]; exact hs1
    · split at h
      · rename_i x U fr D hp
        split at h
        · rename_i hc
          simp only [Bool.and_eq_true] at hc
          simp only [Option.some.injEq, Prod.mk.injEq] at h; obtain ⟨rfl, rfl⟩ := h
          have hnk : 1000 + d ∈ r.nk i := by simpa using hc.1.2
          refine ⟨fun Af Lf a w hA hL hf hs K hK => wpOp_plain ho hg (Oper.wp_mono (fun a1 w1 hs1 => hK a1 w1 ?_) (heap_sat E hA hL hp hC (fun d' e => by rw [hd] at e; cases e; exact hdN) (fun e => by rw [e] at hc; simp at hc) (fun _ => by omega) (fun _ k o hk _ => ((hf _ hnk).2 k o hk).1) (fun _ => (hf _ hnk).1) hs Q)), one x U, hasK_all hc.2⟩
          rw [hd] at hs1
          simp only [addsA_one]; exact hs1
        · cases h
      · cases h
  · rename_i hg hd
    split at h
    · rename_i x U fr D hp
      split at h
      · rename_i hc
        simp only [Bool.and_eq_true, Bool.not_eq_true'] at hc
        simp only [Option.some.injEq, Prod.mk.injEq] at h; obtain ⟨rfl, rfl⟩ := h
        refine ⟨fun Af Lf a w hA hL hf hs K hK => wpOp_plain ho hg (Oper.wp_mono (fun a1 w1 hs1 => hK a1 w1 ?_) (heap_sat E hA hL hp hC (fun d' e => by rw [hd] at e; cases e) (fun _ => hd) (fun e => by rw [hc.1] at e; cases e) (fun e => by rw [hc.1] at e; cases e) (fun e => by rw [hc.1] at e; cases e) hs Q)), fun s hs => by simp [hasK] at hs, hasK_all hc.2⟩
        rw [hd] at hs1
        simp only [addsA_nil]; exact hs1
      · cases h
    · cases h
  · rename_i j want d hg hd
    split at h
    case isFalse => cases h
    rename_i hdN
    have one : ∀ (x : MV) (s : Nat), hasK [(d, x)] s = true → r.dst i = some s := fun x s hs => by
      simp only [hasK, List.any_cons, List.any_nil, Bool.or_false, beq_iff_eq] at hs; subst hs; rw [hdst, hd]
    split at h
    · rename_i dj hdj
      obtain ⟨oj, hoj, hdj'⟩ := Option.bind_eq_some_iff.1 hdj
      have fin : ∀ (g : Bool) (x : MV) (D : Prop), (∀ (Af : Nat → Option MV) (Lf : Nat → Option MObj), (∀ s x, get vA s = some x → Af s = some x) → (∀ k o, getO vL k = some o → Lf k = some o) → ∀ a w, Sat Γ N Af Lf a w → ∀ K : Act → World → Prop,
          (∀ a w, Sat Γ N (addA (some d) (.cnd g x) Af) Lf a w → K a w) → if Region.wanted o (yielded r.ops a.tmps) then o.wp P a w K Q else K (a.put o.dst undef) w) → OpAt P Γ N Q r vA vL ([(d, .cnd g x)], []) i := by
        intro g x D hh Af Lf a w hA hL _ hs K hK
        have := hh Af Lf hA hL a w hs K (fun a1 w1 hs1 => hK a1 w1 (by simp only [addsA_one]; exact hs1))
        unfold wpOp
        rw [ho]; simp only
        split
        · rename_i hw; rw [if_pos hw] at this; exact .inl this
        · rename_i hw; rw [if_neg hw] at this; exact this
      split at h
      · rename_i b hb
        split at h
        · rename_i x D hp
          simp only [Option.some.injEq, Prod.mk.injEq] at h; obtain ⟨rfl, rfl⟩ := h
          exact ⟨fin _ x D (fun Af Lf hA hL a w hs K hK => guard_sat E hA hL hg hoj hdj' (.inl ⟨b, hb, rfl⟩) hp hC hd hdN hs Q K hK), one _, fun k hk => by simp [hasK] at hk⟩
        · cases h
      · rename_i t b hb
        split at h
        · rename_i x D hp
          simp only [Option.some.injEq, Prod.mk.injEq] at h; obtain ⟨rfl, rfl⟩ := h
          exact ⟨fin _ x D (fun Af Lf hA hL a w hs K hK => guard_sat E hA hL hg hoj hdj' (.inr ⟨t, b, hb, rfl⟩) hp hC hd hdN hs Q K hK), one _, fun k hk => by simp [hasK] at hk⟩
        · cases h
      · cases h
    · cases h
  · cases h


/-- the additions so far, the newest first -/
def fnR (n : Nat) (l : List De) (j : Nat) : De := if j < n then l.getD (n - 1 - j) ([], []) else ([], [])
theorem fnR_ok (l : List De) : fnR l.length l = fnOf l.reverse := by
  funext j
  unfold fnR fnOf
  split
  · rename_i h
    rw [List.getD_eq_getElem?_getD, List.getD_eq_getElem?_getD, List.getElem?_reverse h]
  · rename_i h
    rw [List.getD_eq_getElem?_getD, List.getElem?_eq_none (by simpa using h)]; rfl

def viewA2 (r : Rg) (ds : Nat → De) (A : List (Nat × MV)) (i : Nat) : List (Nat × MV) := ((r.pre i).flatMap fun j => (ds j).1) ++ A
def viewL2 (r : Rg) (ex : Nat → List Nat) (ds : Nat → De) (L : List (Nat × Option MObj)) (i : Nat) : List (Nat × Option MObj) := (((r.pre i).flatMap fun j => (ds j).2) ++ L).filter fun q => !((ex i).contains q.1)
/-- a slot of the region is told from before only where it is written in order; the keys left out are all that are written out of order -/
def exB (r : Rg) (ex : Nat → List Nat) (A : List (Nat × MV)) : Bool := (A.all fun q => (List.range r.ops.size).all fun j => !(r.dst j == some q.1) || (List.range r.ops.size).all fun i => !(r.unord i j)) && (List.range r.ops.size).all fun i => (List.range r.ops.size).all fun j => !(r.unord i j) || (r.wk j).all fun k => (ex i).contains k

theorem exB_A {r : Rg} {ex : Nat → List Nat} {A : List (Nat × MV)} (h : exB r ex A = true) {i : Nat} (hi : i < r.ops.size) : (A.filter fun q => !(r.uisd i q.1)) = A := by
  simp only [exB, Bool.and_eq_true] at h
  refine List.filter_eq_self.2 (fun q hq => ?_)
  have h1 := List.all_eq_true.1 h.1 q hq
  cases hu : r.uisd i q.1 with
  | false => rfl
  | true =>
    simp only [Rg.uisd, List.any_eq_true, Bool.and_eq_true] at hu
    obtain ⟨j, hj, hu1, hu2⟩ := hu
    have h2 := List.all_eq_true.1 h1 j hj
    rw [hu2] at h2
    simp only [Bool.not_true, Bool.false_or] at h2
    have h3 := List.all_eq_true.1 h2 i (List.mem_range.2 hi)
    rw [hu1] at h3; cases h3
theorem exB_L {r : Rg} {ex : Nat → List Nat} {A : List (Nat × MV)} (h : exB r ex A = true) {i k : Nat} (hi : i < r.ops.size) (he : r.excl i k = true) : (ex i).contains k = true := by
  simp only [exB, Bool.and_eq_true] at h
  have h2 := List.all_eq_true.1 h.2 i (List.mem_range.2 hi)
  simp only [Rg.excl, List.any_eq_true, Bool.and_eq_true] at he
  obtain ⟨j, hj, hu, hk⟩ := he
  have h3 := List.all_eq_true.1 h2 j hj
  rw [hu] at h3
  simp only [Bool.not_true, Bool.false_or] at h3
  exact List.all_eq_true.1 h3 k (by simpa using hk)

section
variable {P : Program} {Γ : Gd} {N : Nat} {Q : Exit → Act → World → Prop} {A : List (Nat × MV)} {L : List (Nat × Option MObj)} {r : Rg} {G : Prop}

/-- so many operations are reckoned, these are their additions -/
def AJR (P : Program) (Γ : Gd) (N : Nat) (Q : Exit → Act → World → Prop) (r : Rg) (ex : Nat → List Nat) (A : List (Nat × MV)) (L : List (Nat × Option MObj)) (G : Prop) (n : Nat) (l : List De) : Prop :=
  r.ok = true → exB r ex A = true → l.length = n → AJ P Γ N Q r A L G l.reverse

theorem AJR_step {ex : Nat → List Nat} {l : List De} {n : Nat} {δ : De} (hn : n < r.ops.size) (h : OpAt P Γ N Q r (viewA2 r (fnR n l) A n) (viewL2 r ex (fnR n l) L n) δ n ∧ De.ok r n δ) (k : AJR P Γ N Q r ex A L G (n + 1) (δ :: l)) : AJR P Γ N Q r ex A L G n l := by
  intro hr hx hl
  have k' := k hr hx (by simp [hl])
  rw [List.reverse_cons] at k'
  subst hl
  rw [fnR_ok] at h
  have hlen : l.reverse.length = l.length := List.length_reverse
  refine AJ_step hr (by rw [hlen]; exact hn) ?_ k'
  rw [hlen]
  refine ⟨fun Af Lf a w hA hL => h.1 Af Lf a w (fun s x hs => hA s x ?_) (fun q o hq => hL q o ?_), h.2⟩
  · unfold viewA; rw [exB_A hx hn]; exact hs
  · unfold viewL2 at hq
    unfold viewL
    cases he : (ex l.length).contains q with
    | true => rw [getO_filter_none (p := fun q => !((ex l.length).contains q)) (by simp only [he]; rfl)] at hq; cases hq
    | false =>
      rw [getO_filter (p := fun q => !((ex l.length).contains q)) (by simp only [he]; rfl)] at hq
      rw [getO_filter (p := fun q => !(r.excl l.length q)) (by
        cases hc : r.excl l.length q with
        | true => rw [exB_L hx hn hc] at he; cases he
        | false => rfl)]
      exact hq

theorem AJR_ev (E : Env P) {ex : Nat → List Nat} {l : List De} {n : Nat} {δ : De} {C : Prop} (n' : Nat) (hn' : n' = n + 1) (hn : n < r.ops.size) (h : evalV E.tab N r (viewA2 r (fnR n l) A n) (viewL2 r ex (fnR n l) L n) n = some (δ, C)) (hC : C) (k : AJR P Γ N Q r ex A L G n' (δ :: l)) : AJR P Γ N Q r ex A L G n l := by
  subst hn'; exact AJR_step hn (evalV_ok E h hC) k

theorem AJR_call {ex : Nat → List Nat} {l : List De} {n : Nat} {o : Oper} {f : FuncId} {xs ys : List MV} {Lc Lc' : List (Nat × Option MObj)} {res : MV} {C : Prop} (n' : Nat) (hn' : n' = n + 1) (hn : n < r.ops.size) (π : List (Nat × Nat)) (ho : r.ops[n]? = some o) (hF : Fn P f xs Lc res Lc') (hf : fnb P f = true)
    (h : calleeM (viewA2 r (fnR n l) A n) o.op = some (f, ys, C)) (hC : C) (hys : ys = MV.renL (sg π) xs) (hsub : SubL (renO (sg π) Lc) (viewL2 r ex (fnR n l) L n)) (hb : callAB (sg π) N o.dst o.guard.isNone (r.wk n) (r.nk n) Lc Lc' res = true)
    (k : AJR P Γ N Q r ex A L G n' ((addL o.dst (res.ren (sg π)) [], renO (sg π) Lc') :: l)) : AJR P Γ N Q r ex A L G n l := by
  subst hn'; exact AJR_step hn (callA_okB π ho hF h hC hf hys hsub hb) k

def frR (r : Rg) (n : Nat) (l : List De) (A : List (Nat × MV)) (L : List (Nat × Option MObj)) : Bool :=
  (List.range n).all fun i => (r.nk i).all fun kd => freshA kd A && freshL kd L && (List.range n).all fun j => j == i || (r.pre j).contains i || (freshA kd (fnR n l j).1 && freshL kd (fnR n l j).2)

theorem AJR_end (hm : P.follows .mixedOrders = true) {ex : Nat → List Nat} {id n : Nat} {l : List De} (hl : r.ops.size = n) (hf : frR r n l A L = true)
    (fin : TE Γ N (Q .normal) (allA n (fnR n l) A) (allL n (fnR n l) L)) : AJR P Γ N Q r ex A L (TC P Γ N (.region id r.ops true) Q A L) n l := by
  intro hr _ hn
  subst hn
  rw [fnR_ok] at fin
  have hlen : l.reverse.length = l.length := List.length_reverse
  refine AJ_end hm hr (by rw [hlen, hl]) ?_ (by rw [hl]; exact fin)
  unfold frR at hf
  rw [fnR_ok] at hf
  unfold frB
  rw [hl]; exact hf

theorem TC_drawR (r : Rg) (ex : Nat → List Nat) {id : Nat} (hr : r.ok = true) (hx : exB r ex A = true) (h : AJR P Γ N Q r ex A L (TC P Γ N (.region id r.ops true) Q A L) 0 []) : TC P Γ N (.region id r.ops true) Q A L :=
  TC_draw r (h hr hx rfl)
end

end Go.Fo
