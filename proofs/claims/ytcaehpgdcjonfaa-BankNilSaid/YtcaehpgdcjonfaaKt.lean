/- Code over symbolic states: regions in order, tests, blocks, loops, returns; and contracts out of bodies. -/
import Derived.Test.YtcaehpgdcjonfaaKs
namespace Go.Fo

/-- from a symbolic state on: the code comes to what is wanted -/
def TC (P : Program) (Γ : Gd) (N : Nat) (c : Code) (Q : Exit → Act → World → Prop) (A : List (Nat × MV)) (L : List (Nat × Option MObj)) : Prop :=
  ∀ a w, Sat Γ N (get A) (getO L) a w → c.wp P Q a w
/-- .. an end -/
def TE (Γ : Gd) (N : Nat) (R : Act → World → Prop) (A : List (Nat × MV)) (L : List (Nat × Option MObj)) : Prop :=
  ∀ a w, Sat Γ N (get A) (getO L) a w → R a w
/-- .. the rest of a region's operations -/
def TL (P : Program) (Γ : Gd) (N : Nat) (ops : Array Oper) (Q : Exit → Act → World → Prop) (l : List Oper) (A : List (Nat × MV)) (L : List (Nat × Option MObj)) : Prop :=
  ∀ a w, Sat Γ N (get A) (getO L) a w → wpList P ops Q l a w

def freshA (d : Nat) (A : List (Nat × MV)) : Bool := A.all fun q => !q.2.has d
def freshL (d : Nat) (L : List (Nat × Option MObj)) : Bool := L.all fun q => match q.2 with | some o => !o.has d && !(q.1 == d) | none => true

theorem freshA_ok {d : Nat} : ∀ {A : List (Nat × MV)}, freshA d A = true → ∀ s x, get A s = some x → x.has d = false
  | [], _, s, x, h => by simp [get] at h
  | (k, v) :: A, hf, s, x, h => by
    simp only [freshA, List.all_cons, Bool.and_eq_true, Bool.not_eq_true'] at hf
    simp only [get] at h
    split at h
    · simp only [Option.some.injEq] at h; subst h; exact hf.1
    · exact freshA_ok (A := A) hf.2 s x h
theorem freshL_ok {d : Nat} : ∀ {L : List (Nat × Option MObj)}, freshL d L = true → ∀ k o, getO L k = some o → o.has d = false ∧ k ≠ d
  | [], _, s, x, h => by simp [getO] at h
  | (k, v) :: L, hf, s, x, h => by
    simp only [freshL, List.all_cons, Bool.and_eq_true] at hf
    simp only [getO] at h
    split at h
    · rename_i e
      subst h
      have := hf.1
      simp only [Bool.and_eq_true, Bool.not_eq_true', beq_eq_false_iff_ne] at this
      have e' := beq_iff_eq.1 e
      exact ⟨this.1, fun e2 => this.2 (by rw [e', e2])⟩
    · exact freshL_ok (L := L) hf.2 s x h

/-- a run of operations, in order -/
def evalN (tab : Nat → Option TI) (N : Nat) (ops : Array Oper) : Nat → List Oper → List (Nat × MV) → List (Nat × Option MObj) → Option (List Oper × List (Nat × MV) × List (Nat × Option MObj) × Prop)
  | 0, l, A, L => some (l, A, L, True)
  | n + 1, o :: l, A, L => match o.guard, o.dst with
    | none, some d => if d < N then (match pureD tab A L none o.op with
      | some (r, C) => (match evalN tab N ops n l ((d, r) :: A) L with | some (l', A', L', D) => some (l', A', L', C ∧ D) | none => none)
      | none => (match heapD tab A L none (1000 + d) o.op with
        | some (r, U, fr, C) => if fr && freshA (1000 + d) A && freshL (1000 + d) L then (match evalN tab N ops n l ((d, r) :: A) (U ++ L) with | some (l', A', L', D) => some (l', A', L', C ∧ D) | none => none) else none
        | none => none)) else none
    | none, none => (match heapD tab A L none 1000 o.op with
      | some (_, U, fr, C) => if !fr then (match evalN tab N ops n l A (U ++ L) with | some (l', A', L', D) => some (l', A', L', C ∧ D) | none => none) else none
      | none => none)
    | some (j, want), some d => if d < N then (match (ops[j]?).bind (·.dst) with
      | some dj => (match get A dj with
        | some (.bool b) => (match pureD tab A L (some (if want then b else !b)) o.op with
          | some (r, C) => (match evalN tab N ops n l ((d, .cnd (if want then b else !b) r) :: A) L with | some (l', A', L', D) => some (l', A', L', ((if want then b else !b) = true → C) ∧ D) | none => none)
          | none => none)
        | some (.cnd t (.bool b)) => (match pureD tab A L (some (t && (if want then b else !b))) o.op with
          | some (r, C) => (match evalN tab N ops n l ((d, .cnd (t && (if want then b else !b)) r) :: A) L with | some (l', A', L', D) => some (l', A', L', ((t && (if want then b else !b)) = true → C) ∧ D) | none => none)
          | none => none)
        | _ => none)
      | none => none) else none
    | _, _ => none
  | _ + 1, [], _, _ => none

theorem evalN_ok {P : Program} (E : Env P) {Γ : Gd} {N : Nat} {ops : Array Oper} {Q : Exit → Act → World → Prop} : ∀ (n : Nat) {l l' : List Oper} {A A' : List (Nat × MV)} {L L' : List (Nat × Option MObj)} {C : Prop},
    evalN E.tab N ops n l A L = some (l', A', L', C) → C → TL P Γ N ops Q l' A' L' → TL P Γ N ops Q l A L
  | 0, l, l', A, A', L, L', C, h, _, k => by
    simp only [evalN, Option.some.injEq, Prod.mk.injEq] at h
    obtain ⟨rfl, rfl, rfl, _⟩ := h; exact k
  | n + 1, [], l', A, A', L, L', C, h, _, _ => by simp [evalN] at h
  | n + 1, o :: l, l', A, A', L, L', C, h, hC, k => by
    intro a w hs
    unfold evalN at h
    split at h
    · -- no guard, a slot
      rename_i d hg hd
      split at h
      case isFalse => cases h
      rename_i hdN
      split at h
      · rename_i r D hp
        split at h
        · rename_i l1 A1 L1 F hrec
          simp only [Option.some.injEq, Prod.mk.injEq] at h; obtain ⟨rfl, rfl, rfl, rfl⟩ := h
          refine wpList_plain hg fun K hK => ?_
          refine Oper.wp_mono (fun a w h => hK a w h) (Oper.wp_mono ?_ (pure_sat E (fun _ _ h => h) (fun _ _ h => h) hp hC.1 (fun d' e => by rw [hd] at e; cases e; exact hdN) hs Q))
          intro a1 w1 hs1
          refine evalN_ok E n hrec hC.2 k a1 w1 ?_
          rw [hd] at hs1; exact hs1
        · cases h
      · split at h
        · rename_i r U fr D hp
          split at h
          · rename_i hfr
            simp only [Bool.and_eq_true] at hfr
            split at h
            · rename_i l1 A1 L1 F hrec
              simp only [Option.some.injEq, Prod.mk.injEq] at h; obtain ⟨rfl, rfl, rfl, rfl⟩ := h
              refine wpList_plain hg fun K hK => ?_
              refine Oper.wp_mono (fun a w h => hK a w h) (Oper.wp_mono ?_ (heap_sat E (fun _ _ h => h) (fun _ _ h => h) hp hC.1 (fun d' e => by rw [hd] at e; cases e; exact hdN) (fun e => by rw [e] at hfr; simp at hfr) (fun _ => by omega) (fun _ k o hk _ => (freshL_ok hfr.2 k o hk).1) (fun _ => freshA_ok hfr.1.2) hs Q))
              intro a1 w1 hs1
              refine evalN_ok E n hrec hC.2 k a1 w1 ?_
              rw [hd] at hs1; rw [getO_append]; exact hs1
            · cases h
          · cases h
        · cases h
    · -- no guard, no slot
      rename_i hg hd
      split at h
      · rename_i r U fr D hp
        split at h
        · rename_i hfr
          simp only [Bool.not_eq_true'] at hfr
          split at h
          · rename_i l1 A1 L1 F hrec
            simp only [Option.some.injEq, Prod.mk.injEq] at h; obtain ⟨rfl, rfl, rfl, rfl⟩ := h
            refine wpList_plain hg fun K hK => ?_
            refine Oper.wp_mono (fun a w h => hK a w h) (Oper.wp_mono ?_ (heap_sat E (fun _ _ h => h) (fun _ _ h => h) hp hC.1 (fun d' e => by rw [hd] at e; cases e) (fun _ => hd) (fun e => by rw [hfr] at e; cases e) (fun e => by rw [hfr] at e; cases e) (fun e => by rw [hfr] at e; cases e) hs Q))
            intro a1 w1 hs1
            refine evalN_ok E n hrec hC.2 k a1 w1 ?_
            rw [hd] at hs1; rw [getO_append]; exact hs1
          · cases h
        · cases h
      · cases h
    · -- a guard
      rename_i j want d hg hd
      split at h
      case isFalse => cases h
      rename_i hdN
      split at h
      · rename_i dj hdj
        obtain ⟨oj, hoj, hdj'⟩ := Option.bind_eq_some_iff.1 hdj
        split at h
        · rename_i b hb
          split at h
          · rename_i r D hp
            split at h
            · rename_i l1 A1 L1 F hrec
              simp only [Option.some.injEq, Prod.mk.injEq] at h; obtain ⟨rfl, rfl, rfl, rfl⟩ := h
              refine wpList_step fun K hK => ?_
              exact guard_sat E (fun _ _ h => h) (fun _ _ h => h) hg hoj hdj' (.inl ⟨b, hb, rfl⟩) hp hC.1 hd hdN hs Q K (fun a1 w1 hs1 => hK a1 w1 (evalN_ok E n hrec hC.2 k a1 w1 hs1))
            · cases h
          · cases h
        · rename_i t b hb
          split at h
          · rename_i r D hp
            split at h
            · rename_i l1 A1 L1 F hrec
              simp only [Option.some.injEq, Prod.mk.injEq] at h; obtain ⟨rfl, rfl, rfl, rfl⟩ := h
              refine wpList_step fun K hK => ?_
              exact guard_sat E (fun _ _ h => h) (fun _ _ h => h) hg hoj hdj' (.inr ⟨t, b, hb, rfl⟩) hp hC.1 hd hdN hs Q K (fun a1 w1 hs1 => hK a1 w1 (evalN_ok E n hrec hC.2 k a1 w1 hs1))
            · cases h
          · cases h
        · cases h
      · cases h
    · cases h

end Go.Fo
