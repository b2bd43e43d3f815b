/- Regions whose order is open: one reckoning serves every order. -/
import Derived.Test.YtcaehpgdcjonfaaKw
namespace Go.Fo

/-- what an operation adds: a slot's value, objects -/
abbrev De := List (Nat × MV) × List (Nat × Option MObj)

/-- the largest number below n that meets p -/
def srch (p : Nat → Bool) : Nat → Option Nat
  | 0 => none
  | n + 1 => if p n then some n else srch p n
theorem srch_succ (p : Nat → Bool) (n : Nat) : srch p (n + 1) = if p n then some n else srch p n := rfl
theorem srch_some {p : Nat → Bool} : ∀ {n j : Nat}, srch p n = some j → j < n ∧ p j = true ∧ ∀ q, q < n → p q = true → q ≤ j
  | 0, _, h => by simp [srch] at h
  | n + 1, j, h => by
    unfold srch at h
    split at h
    · rename_i hp; simp only [Option.some.injEq] at h; subst h; exact ⟨by omega, hp, fun q hq _ => by omega⟩
    · rename_i hp
      obtain ⟨h1, h2, h3⟩ := srch_some h
      refine ⟨by omega, h2, fun q hq hpq => ?_⟩
      rcases Nat.lt_or_ge q n with hlt | hge
      · exact h3 q hlt hpq
      · have : q = n := by omega
        subst this; exact absurd hpq hp
theorem srch_none {p : Nat → Bool} : ∀ {n : Nat}, srch p n = none → ∀ q, q < n → p q = false
  | 0, _, q, hq => by omega
  | n + 1, h, q, hq => by
    unfold srch at h
    split at h
    · cases h
    · rename_i hp
      rcases Nat.lt_or_ge q n with hlt | hge
      · exact srch_none h q hlt
      · have : q = n := by omega
        subst this; simpa using hp
theorem srch_eq {p : Nat → Bool} {n j : Nat} (h1 : j < n) (h2 : p j = true) (h3 : ∀ q, q < n → p q = true → q ≤ j) : srch p n = some j := by
  cases h : srch p n with
  | none => rw [srch_none h j h1] at h2; cases h2
  | some i =>
    obtain ⟨g1, g2, g3⟩ := srch_some h
    have := g3 j h1 h2; have := h3 i g1 g2
    congr 1; omega

def hasK {α : Type} (l : List (Nat × α)) (s : Nat) : Bool := l.any fun q => q.1 == s
theorem get_hasK {l : List (Nat × MV)} {s : Nat} {x : MV} (h : get l s = some x) : hasK l s = true := by
  induction l with
  | nil => simp [get] at h
  | cons q l ih =>
    obtain ⟨k, v⟩ := q
    simp only [get] at h
    simp only [hasK, List.any_cons, Bool.or_eq_true]
    split at h
    · rename_i e; exact .inl e
    · exact .inr (ih h)
theorem hasK_get {l : List (Nat × MV)} {s : Nat} (h : hasK l s = true) : ∃ x, get l s = some x := by
  induction l with
  | nil => simp [hasK] at h
  | cons q l ih =>
    obtain ⟨k, v⟩ := q
    simp only [hasK, List.any_cons, Bool.or_eq_true] at h
    simp only [get]
    split
    · exact ⟨v, rfl⟩
    · rename_i e
      rcases h with h | h
      · exact absurd h e
      · exact ih h
theorem get_app {l l' : List (Nat × MV)} (s : Nat) : get (l ++ l') s = if hasK l s then get l s else get l' s := by
  induction l with
  | nil => rfl
  | cons q l ih =>
    obtain ⟨k, v⟩ := q
    by_cases e : (k == s) = true
    · have h0 : hasK ((k, v) :: l) s = true := by simp [hasK, e]
      rw [if_pos h0, List.cons_append, get, get, if_pos e, if_pos e]
    · have e' : (k == s) = false := by simpa using e
      have h0 : hasK ((k, v) :: l) s = hasK l s := by simp [hasK, e']
      rw [h0, List.cons_append, get, get, if_neg e, if_neg e, ih]
theorem getO_app {l l' : List (Nat × Option MObj)} (s : Nat) : getO (l ++ l') s = if hasK l s then getO l s else getO l' s := by
  induction l with
  | nil => rfl
  | cons q l ih =>
    obtain ⟨k, v⟩ := q
    by_cases e : (k == s) = true
    · have h0 : hasK ((k, v) :: l) s = true := by simp [hasK, e]
      rw [if_pos h0, List.cons_append, getO, getO, if_pos e, if_pos e]
    · have e' : (k == s) = false := by simpa using e
      have h0 : hasK ((k, v) :: l) s = hasK l s := by simp [hasK, e']
      rw [h0, List.cons_append, getO, getO, if_neg e, if_neg e, ih]
theorem get_filter {l : List (Nat × MV)} {p : Nat → Bool} {s : Nat} (h : p s = true) : get (l.filter fun q => p q.1) s = get l s := by
  induction l with
  | nil => rfl
  | cons q l ih =>
    obtain ⟨k, v⟩ := q
    simp only [List.filter_cons]
    by_cases e : (k == s) = true
    · have := beq_iff_eq.1 e; subst this
      simp [h, get]
    · split
      · simp only [get]; rw [if_neg e, if_neg e]; exact ih
      · simp only [get]; rw [if_neg e]; exact ih
theorem get_filter_none {l : List (Nat × MV)} {p : Nat → Bool} {s : Nat} (h : p s = false) : get (l.filter fun q => p q.1) s = none := by
  induction l with
  | nil => rfl
  | cons q l ih =>
    obtain ⟨k, v⟩ := q
    simp only [List.filter_cons]
    split
    · rename_i hp
      simp only [get]
      rw [if_neg (fun e => by have := beq_iff_eq.1 e; subst this; rw [h] at hp; cases hp)]; exact ih
    · exact ih
theorem getO_filter {l : List (Nat × Option MObj)} {p : Nat → Bool} {s : Nat} (h : p s = true) : getO (l.filter fun q => p q.1) s = getO l s := by
  induction l with
  | nil => rfl
  | cons q l ih =>
    obtain ⟨k, v⟩ := q
    simp only [List.filter_cons]
    by_cases e : (k == s) = true
    · have := beq_iff_eq.1 e; subst this
      simp [h, getO]
    · split
      · simp only [getO]; rw [if_neg e, if_neg e]; exact ih
      · simp only [getO]; rw [if_neg e]; exact ih
theorem getO_filter_none {l : List (Nat × Option MObj)} {p : Nat → Bool} {s : Nat} (h : p s = false) : getO (l.filter fun q => p q.1) s = none := by
  induction l with
  | nil => rfl
  | cons q l ih =>
    obtain ⟨k, v⟩ := q
    simp only [List.filter_cons]
    split
    · rename_i hp
      simp only [getO]
      rw [if_neg (fun e => by have := beq_iff_eq.1 e; subst this; rw [h] at hp; cases hp)]; exact ih
    · exact ih

theorem get_flat {ds : Nat → De} {s : Nat} {x : MV} : ∀ {l : List Nat}, get (l.flatMap fun j => (ds j).1) s = some x → ∃ j ∈ l, get (ds j).1 s = some x
  | [], h => by simp [get] at h
  | j :: l, h => by
    rw [List.flatMap_cons, get_app] at h
    split at h
    · exact ⟨j, by simp, h⟩
    · obtain ⟨j', h1, h2⟩ := get_flat h
      exact ⟨j', by simp [h1], h2⟩
theorem hasK_flat {ds : Nat → De} {s : Nat} : ∀ {l : List Nat}, hasK (l.flatMap fun j => (ds j).1) s = true ↔ ∃ j ∈ l, hasK (ds j).1 s = true := by
  intro l; simp [hasK, List.any_flatMap]
theorem hasK_flatO {ds : Nat → De} {s : Nat} : ∀ {l : List Nat}, hasK (l.flatMap fun j => (ds j).2) s = true ↔ ∃ j ∈ l, hasK (ds j).2 s = true := by
  intro l; simp [hasK, List.any_flatMap]
/-- the first of a falling list that has the key is the greatest -/
theorem getO_flat {ds : Nat → De} {s : Nat} : ∀ {l : List Nat}, l.Pairwise (· > ·) → hasK (l.flatMap fun j => (ds j).2) s = true →
    ∃ j ∈ l, hasK (ds j).2 s = true ∧ getO (l.flatMap fun j => (ds j).2) s = getO (ds j).2 s ∧ ∀ q ∈ l, hasK (ds q).2 s = true → q ≤ j
  | [], _, h => by simp [hasK] at h
  | j :: l, hp, h => by
    rw [List.pairwise_cons] at hp
    by_cases e : hasK (ds j).2 s = true
    · refine ⟨j, by simp, e, by rw [List.flatMap_cons, getO_app, if_pos e], fun q hq _ => ?_⟩
      rcases List.mem_cons.1 hq with rfl | hq
      · exact Nat.le_refl _
      · exact Nat.le_of_lt (hp.1 q hq)
    · rw [List.flatMap_cons] at h ⊢
      have h' : hasK (l.flatMap fun j => (ds j).2) s = true := by
        simp only [hasK, List.any_append, Bool.or_eq_true] at h e ⊢
        exact h.resolve_left e
      obtain ⟨j', h1, h2, h3, h4⟩ := getO_flat hp.2 h'
      refine ⟨j', by simp [h1], h2, by rw [getO_app, if_neg e]; exact h3, fun q hq hk => ?_⟩
      rcases List.mem_cons.1 hq with rfl | hq
      · exact absurd hk e
      · exact h4 q hq hk

/-- what a drawn region is told by: its operations, what goes before each, the objects that each may write, the keys that each makes -/
structure Rg where
  ops : Array Oper
  pre : Nat → List Nat
  wk : Nat → List Nat
  nk : Nat → List Nat

def Rg.dst (r : Rg) (i : Nat) : Option Nat := (r.ops[i]?).bind (·.dst)
def Rg.ons (r : Rg) (i : Nat) : List Nat := match r.ops[i]? with | some o => (o.after.toList.filter (Region.binds .any)).map (·.on) | none => []
def Rg.unord (r : Rg) (i j : Nat) : Bool := i != j && !(r.pre i).contains j && !(r.pre j).contains i
def Rg.excl (r : Rg) (i k : Nat) : Bool := (List.range r.ops.size).any fun j => r.unord i j && (r.wk j).contains k
def Rg.isdst (r : Rg) (s : Nat) : Bool := (List.range r.ops.size).any fun j => r.dst j == some s

/-- the closed conditions -/
def Rg.ok (r : Rg) : Bool :=
  (List.range r.ops.size).all fun i =>
    (r.ons i).all (fun e => decide (e < i) && (r.pre i).contains e) &&
    (r.pre i).all (fun j => decide (j < i) && ((r.ons i).contains j || (r.ons i).any fun e => (r.pre e).contains j)) &&
    decide ((r.pre i).Pairwise (· > ·)) &&
    (List.range r.ops.size).all (fun j => i == j || (r.dst i == none || r.dst i != r.dst j) && (!(r.unord i j) || (r.wk i).all fun k => !(r.wk j).contains k))

/-- is a slot written out of order with an operation? -/
def Rg.uisd (r : Rg) (i s : Nat) : Bool := (List.range r.ops.size).any fun j => r.unord i j && r.dst j == some s
def viewA (r : Rg) (ds : Nat → De) (A : List (Nat × MV)) (i : Nat) : List (Nat × MV) := ((r.pre i).flatMap fun j => (ds j).1) ++ A.filter fun q => !(r.uisd i q.1)
def viewL (r : Rg) (ds : Nat → De) (L : List (Nat × Option MObj)) (i : Nat) : List (Nat × Option MObj) := (((r.pre i).flatMap fun j => (ds j).2) ++ L).filter fun q => !(r.excl i q.1)

def lkA (n : Nat) (ds : Nat → De) (A : List (Nat × MV)) (ls : Nat → Bool) (s : Nat) : Option MV :=
  match srch (fun j => ls j && hasK (ds j).1 s) n with
  | some j => get (ds j).1 s
  | none => get A s
def lkL (n : Nat) (ds : Nat → De) (L : List (Nat × Option MObj)) (ls : Nat → Bool) (k : Nat) : Option MObj :=
  match srch (fun j => ls j && hasK (ds j).2 k) n with
  | some j => getO (ds j).2 k
  | none => getO L k

def addsA (l : List (Nat × MV)) (A : Nat → Option MV) (s : Nat) : Option MV := if hasK l s then get l s else A s

/-- an operation, in whatever state that shows what goes before it -/
def OpOK (P : Program) (Γ : Gd) (N : Nat) (Q : Exit → Act → World → Prop) (r : Rg) (ds : Nat → De) (A : List (Nat × MV)) (L : List (Nat × Option MObj)) (i : Nat) : Prop :=
  ∀ (Af : Nat → Option MV) (Lf : Nat → Option MObj) (a : Act) (w : World), (∀ s x, get (viewA r ds A i) s = some x → Af s = some x) → (∀ k o, getO (viewL r ds L i) k = some o → Lf k = some o) →
    (∀ kd ∈ r.nk i, (∀ s x, Af s = some x → x.has kd = false) ∧ ∀ k o, Lf k = some o → o.has kd = false ∧ k ≠ kd) → Sat Γ N Af Lf a w →
    ∀ K : Act → World → Prop, (∀ a w, Sat Γ N (addsA (ds i).1 Af) (updO (ds i).2 Lf) a w → K a w) → wpOp P r.ops Q i K a w

end Go.Fo
