/- A bank tells what the reference tells: the plain fact. -/
import Derived.Test.YtcaehpgdcjonfaaBtTb
namespace Go.Fo
set_option maxRecDepth 6000
theorem alive4_w : psalterylaw04_alive 1100 = some true := by kernel_rfl
theorem turn_no (K : Nat) (n : Int) (t : List (Option (List Int))) (a b : Int) (h : mayTurn n = false) : bank_Bank_Turn K n t a b = some (.inl 1) := by
  unfold bank_Bank_Turn
  have hv : (bif (bif decide (n ≥ 4) then decide (n ≤ 1024) else false) then (Int.tmod n 4 == 0) else false) = mayTurn n := by
    unfold mayTurn
    by_cases h4 : 4 ≤ n
    · rw [Int.tmod_eq_emod_of_nonneg (by omega)]
      cases hd : decide (n ≤ 1024) <;> simp [h4]
    · simp [h4]
  dsimp only
  rw [hv, h]; rfl
theorem slope_no (K : Nat) (n : Int) (t : List (Option (List Int))) (a b : Int) (h : maySlope n = false) : bank_Bank_Slope K n t a b = some (.inl 1) := by
  unfold bank_Bank_Slope
  have hv : (bif decide (n ≥ 1) then decide (n ≤ 128) else false) = maySlope n := by
    unfold maySlope
    by_cases h4 : 1 ≤ n
    · simp [h4]
    · simp [h4]
  dsimp only
  rw [hv, h]; rfl
theorem filt_no (n : Int) (t : List (Option (List Int))) (a b : Int) (h : mayFilt n = false) : bank_Bank_Filter 1100 n t a b = some (.inl 1) := by
  unfold bank_Bank_Filter
  have hv : (bif (n == 4) then true else (n == 8)) = mayFilt n := by unfold mayFilt; cases h : n == 4 <;> rfl
  dsimp only
  rw [hv, h]; rfl

/-- a question: its kind, whether it may be asked, its place, its answer -/
def kin (k : Int) : Int := if k = 0 then 0 else if k = 1 then 1 else 2
def may (k n : Int) : Bool := if k = 0 then mayTurn n else if k = 1 then maySlope n else mayFilt n
def slot (k n : Int) : Nat := if k = 0 then (n / 4).toNat else if k = 1 then 257 + n.toNat else 386 + (n / 8).toNat
def ans (k n : Int) : List Int := if k = 0 then tabOf (turnF n) n.toNat else if k = 1 then tabOf (slopeF n) n.toNat else tabOf (filtF n) (10 * n).toNat
theorem may_turn {n : Int} (h : mayTurn n = true) : 4 ≤ n ∧ n ≤ 1024 ∧ n % 4 = 0 := by
  unfold mayTurn at h
  simp only [Bool.and_eq_true, decide_eq_true_eq, beq_iff_eq] at h
  exact ⟨h.1.1, h.1.2, h.2⟩
theorem may_slope {n : Int} (h : maySlope n = true) : 1 ≤ n ∧ n ≤ 128 := by
  unfold maySlope at h
  simp only [Bool.and_eq_true, decide_eq_true_eq] at h
  exact h
theorem may_filt {n : Int} (h : mayFilt n = true) : n = 4 ∨ n = 8 := by
  unfold mayFilt at h
  simp only [Bool.or_eq_true, beq_iff_eq] at h
  exact h
theorem slot_lt {k n : Int} (h : may k n = true) : slot k n < 388 := by
  unfold may at h; unfold slot
  by_cases e0 : k = 0
  · rw [if_pos e0] at h ⊢; have := may_turn h; omega
  · rw [if_neg e0] at h ⊢
    by_cases e1 : k = 1
    · rw [if_pos e1] at h ⊢; have := may_slope h; omega
    · rw [if_neg e1] at h ⊢; have := may_filt h; omega
theorem slot_inj {k n k' n' : Int} (h : may k n = true) (h' : may k' n' = true) (e : slot k n = slot k' n') : kin k = kin k' ∧ n = n' := by
  unfold may at h h'; unfold slot at e; unfold kin
  by_cases e0 : k = 0
  · rw [if_pos e0] at h e ⊢
    have := may_turn h
    by_cases f0 : k' = 0
    · rw [if_pos f0] at h' e ⊢; have := may_turn h'; omega
    · rw [if_neg f0] at h' e ⊢
      by_cases f1 : k' = 1
      · rw [if_pos f1] at h' e ⊢; have := may_slope h'; omega
      · rw [if_neg f1] at h' e ⊢; have := may_filt h'; omega
  · rw [if_neg e0] at h e ⊢
    by_cases e1 : k = 1
    · rw [if_pos e1] at h e ⊢
      have := may_slope h
      by_cases f0 : k' = 0
      · rw [if_pos f0] at h' e ⊢; have := may_turn h'; omega
      · rw [if_neg f0] at h' e ⊢
        by_cases f1 : k' = 1
        · rw [if_pos f1] at h' e ⊢; have := may_slope h'; omega
        · rw [if_neg f1] at h' e ⊢; have := may_filt h'; omega
    · rw [if_neg e1] at h e ⊢
      have := may_filt h
      by_cases f0 : k' = 0
      · rw [if_pos f0] at h' e ⊢; have := may_turn h'; omega
      · rw [if_neg f0] at h' e ⊢
        by_cases f1 : k' = 1
        · rw [if_pos f1] at h' e ⊢; have := may_slope h'; omega
        · rw [if_neg f1] at h' e ⊢; have := may_filt h'; omega
theorem kin_kin (k : Int) : kin (kin k) = kin k := by
  unfold kin
  by_cases e0 : k = 0
  · rw [if_pos e0]; rfl
  · rw [if_neg e0]
    by_cases e1 : k = 1
    · rw [if_pos e1]; rfl
    · rw [if_neg e1]; rfl
theorem slot_kin (k n : Int) : slot (kin k) n = slot k n := by
  unfold slot kin
  by_cases e0 : k = 0
  · rw [if_pos e0, if_pos e0, if_pos rfl]
  · rw [if_neg e0, if_neg e0]
    by_cases e1 : k = 1
    · rw [if_pos e1, if_pos e1]; rfl
    · rw [if_neg e1, if_neg e1]; rfl
theorem may_kin (k n : Int) : may (kin k) n = may k n := by
  unfold may kin
  by_cases e0 : k = 0
  · rw [if_pos e0, if_pos e0, if_pos rfl]
  · rw [if_neg e0, if_neg e0]
    by_cases e1 : k = 1
    · rw [if_pos e1, if_pos e1]; rfl
    · rw [if_neg e1, if_neg e1]; rfl
theorem ans_inj {k n k' n' : Int} (e : kin k = kin k') (f : n = n') : ans k n = ans k' n' := by
  subst f
  unfold kin at e; unfold ans
  by_cases e0 : k = 0
  · rw [if_pos e0] at e ⊢
    by_cases f0 : k' = 0
    · rw [if_pos f0]
    · rw [if_neg f0] at e
      by_cases f1 : k' = 1
      · rw [if_pos f1] at e; omega
      · rw [if_neg f1] at e; omega
  · rw [if_neg e0] at e ⊢
    by_cases e1 : k = 1
    · rw [if_pos e1] at e ⊢
      by_cases f0 : k' = 0
      · rw [if_pos f0] at e; omega
      · rw [if_neg f0] at e ⊢
        by_cases f1 : k' = 1
        · rw [if_pos f1]
        · rw [if_neg f1] at e; omega
    · rw [if_neg e1] at e ⊢
      by_cases f0 : k' = 0
      · rw [if_pos f0] at e; omega
      · rw [if_neg f0] at e ⊢
        by_cases f1 : k' = 1
        · rw [if_pos f1] at e; omega
        · rw [if_neg f1]
theorem ans_len {k n : Int} (h : may k n = true) : 1 ≤ (ans k n).length ∧ (ans k n).length ≤ 1024 := by
  unfold may at h; unfold ans
  by_cases e0 : k = 0
  · rw [if_pos e0] at h ⊢; have := may_turn h; rw [tabOf_len]; omega
  · rw [if_neg e0] at h ⊢
    by_cases e1 : k = 1
    · rw [if_pos e1] at h ⊢; have := may_slope h; rw [tabOf_len]; omega
    · rw [if_neg e1] at h ⊢; have := may_filt h; rw [tabOf_len]; omega

theorem ask_w (k n : Int) (t : List (Option (List Int))) (a b : Int) (hl : t.length = 388) (hm : may k n = true → ∀ m, t[slot k n]? = some (some m) → m = ans k n) :
    psalterylaw04_ask 1100 k n t a b = if may k n = true then some (.inr (.inr (.inr ((told t (slot k n) (ans k n) a b).1, ans k n, (told t (slot k n) (ans k n) a b).2.1, (told t (slot k n) (ans k n) a b).2.2.1, (told t (slot k n) (ans k n) a b).2.2.2)))) else some (.inl 1) := by
  unfold psalterylaw04_ask
  unfold may slot ans at hm
  unfold may slot ans
  by_cases e0 : k = 0
  · simp only [if_pos e0] at hm ⊢
    refine bif_eq_t (beq_iff_eq.2 e0) ?_
    rw [rturn_w 1100 (by decide) n]
    cases hh : mayTurn n with
    | true =>
      rw [turn_w 1100 (by decide) n t a b hl (hm hh), hh]; rfl
    | false =>
      rw [turn_no 1100 n t a b hh]; rfl
  · simp only [if_neg e0] at hm ⊢
    refine bif_eq_f (beq_eq_false_iff_ne.2 e0) ?_
    by_cases e1 : k = 1
    · simp only [if_pos e1] at hm ⊢
      refine bif_eq_t (beq_iff_eq.2 e1) ?_
      rw [rslope_w 1100 (by decide) n]
      cases hh : maySlope n with
      | true =>
        rw [slope_w 1100 (by decide) n t a b hl (hm hh), hh]; rfl
      | false =>
        rw [slope_no 1100 n t a b hh]; rfl
    · simp only [if_neg e1] at hm ⊢
      refine bif_eq_f (beq_eq_false_iff_ne.2 e1) ?_
      rw [rfilt_w n]
      cases hh : mayFilt n with
      | true =>
        rw [filt_w n t a b hl (hm hh), hh]; rfl
      | false =>
        rw [filt_no n t a b hh]; rfl

theorem same_w {l : List Int} (hl : l.length ≤ 1024) : psalteryref04_Same_2 1100 l l = some true := by
  refine bif_eq_f (by simp) ?_
  refine bnd_eq (x := .inl ()) ?_ rfl
  refine cnt_loop0 (r := psalteryref04_Same_2.r0 1100 l l) l.length (some (.inl ())) (fun next k hk => ?_) (fun next => ?_) (by omega)
  · refine bif_eq_t (decide_eq_true (by omega)) ?_
    refine gd_eq (by omega) ?_
    refine gd_eq (by omega) ?_
    refine bif_eq_f (by simp) ?_
    show next _ = _
    rw [kw_i64 (by omega) (by omega)]; rfl
  · exact bif_eq_f (decide_eq_false (by omega)) rfl

theorem any_acc (c : List (Int × Int)) (q : Int × Int) : ∀ (n : Nat), n ≤ c.length → accf (fun k x => bif x then true else (c.getD k (0, 0) == q)) false n = (c.take n).any (fun p => p == q)
  | 0, _ => rfl
  | n + 1, h => by
    show (bif accf (fun k x => bif x then true else (c.getD k (0, 0) == q)) false n then true else (c.getD n (0, 0) == q)) = _
    rw [any_acc c q n (by omega), List.take_add_one, List.any_append, List.getD_eq_getElem?_getD, List.getElem?_eq_getElem (by omega)]
    simp only [Option.getD_some, Option.toList_some, List.any_cons, List.any_nil, Bool.or_false]
    cases (c.take n).any (fun p => p == q) <;> rfl
theorem found_w (a0 : List (Int × Int)) (a1 a2 : Int) (a3 : List (Option (List Int))) (a4 a5 : Int) (c : List (Int × Int)) (x y : Int) (hc : c.length ≤ 1000) :
    psalterylaw04_BankTells.l4 1100 a0 a1 a2 a3 a4 a5 c x y 1100 false 0 = some (c.any (fun p => p == (x, y))) := by
  refine acc_loop0 (r := psalterylaw04_BankTells.r4 1100 a0 a1 a2 a3 a4 a5 c x y) c.length (fun k z => bif z then true else (c.getD k (0, 0) == (x, y))) false _ (fun next k z hk => ?_) (fun next => ?_) (by omega)
  · refine bif_eq_t (decide_eq_true (by omega)) ?_
    refine gd_eq ⟨fun _ => by omega, fun _ => by omega⟩ ?_
    dsimp only
    refine gd_eq (fun _ => by omega) ?_
    rw [kw_i64 (x := (k : Int) + 1) (by omega) (by omega)]
    rfl
  · rw [any_acc c (x, y) c.length (by omega), List.take_length]
    exact bif_eq_f (decide_eq_false (by omega)) rfl

/-- what holds between two questions -/
structure Held (t : List (Option (List Int))) (a : Int) (d : List (Int × Int)) (i : Nat) : Prop where
  len : t.length = 388
  made : a = (d.length : Int)
  few : d.length ≤ i
  old : ∀ k n, may k n = true → ∀ m, t[slot k n]? = some (some m) → m = ans k n ∧ (kin k, n) ∈ d
  new : ∀ p, p ∈ d → may p.1 p.2 = true ∧ t[slot p.1 p.2]? = some (some (ans p.1 p.2))
theorem told_len {t : List (Option (List Int))} {j : Nat} (l : List Int) (a b : Int) (hj : j < t.length) : (told t j l a b).2.1.length = t.length := by
  unfold told
  split
  · rfl
  · simp only [List.length_append, List.length_take, List.length_cons, List.length_drop]; omega
theorem told_keep {t : List (Option (List Int))} {j : Nat} (l : List Int) (a b : Int) (hj : j < t.length) {q : Nat} {m : List Int} (h : t[q]? = some (some m)) : (told t j l a b).2.1[q]? = some (some m) := by
  unfold told
  split
  · exact h
  · rename_i hn
    have hl : (t.take j).length = j := by rw [List.length_take]; omega
    dsimp only
    rcases Nat.lt_trichotomy q j with e | e | e
    · rw [List.getElem?_append_left (by omega), List.getElem?_take, if_pos e]; exact h
    · subst e; exact absurd h (hn m)
    · rw [List.getElem?_append_right (by omega), hl, show q - j = (q - j - 1) + 1 by omega, List.getElem?_cons_succ, List.getElem?_drop, show j + 1 + (q - j - 1) = q by omega]; exact h
theorem told_self {t : List (Option (List Int))} {j : Nat} (l : List Int) (a b : Int) (hj : j < t.length) (h : ∀ m, t[j]? ≠ some (some m)) : told t j l a b = (l, t.take j ++ some l :: t.drop (j + 1), kwrap .i64 (a + 1), kwrap .i64 (b + 1)) := by
  unfold told
  split
  · rename_i m hm; exact absurd hm (h m)
  · rfl
theorem told_hit {t : List (Option (List Int))} {j : Nat} (l : List Int) (a b : Int) {m : List Int} (h : t[j]? = some (some m)) : told t j l a b = (m, t, a, kwrap .i64 (b + 1)) := by
  unfold told
  rw [h]

theorem step_w (c0 : List (Int × Int)) (next : Int → Int → List (Option (List Int)) → Int → Int → List (Int × Int) → Option (Unit ⊕ Bool)) (i : Nat) (hi : i < c0.length) (hi2 : i < 40)
    (t : List (Option (List Int))) (a b : Int) (d : List (Int × Int)) (H : Held t a d i) :
    ∃ t' a' b' d', Held t' a' d' (i + 1) ∧ psalterylaw04_BankTells.r0 1100 c0 next b (i : Int) t a b d = next b' ((i + 1 : Nat) : Int) t' a' b' d' := by
  obtain ⟨k, n, hk⟩ : ∃ k n, (Kd.nth (.pair (.int .i64) (.int .i64)) c0 (Int.toNat (i : Int)) : Int × Int) = (k, n) := ⟨_, _, rfl⟩
  have hstep : kwrap .i64 ((i : Int) + 1) = ((i + 1 : Nat) : Int) := by rw [kw_i64 (by omega) (by omega)]; omega
  have hask := ask_w k n t a b H.len (fun h m hm => (H.old k n h m hm).1)
  have hgo : (decide ((i : Int) < (c0.length : Int))) = true := decide_eq_true (by omega)
  have hg : (0 : Int) ≤ (i : Int) ∧ (i : Int) < (c0.length : Int) := by omega
  cases hh : may k n with
  | false =>
    rw [hh, if_neg (by decide)] at hask
    refine ⟨t, a, b, d, ⟨H.len, H.made, by have := H.few; omega, H.old, H.new⟩, ?_⟩
    unfold psalterylaw04_BankTells.r0
    dsimp only
    rw [hk]
    refine bif_eq_t hgo ?_
    refine bnd_eq (x := .inl (b, t, a, b, d)) ?_ (by dsimp only; rw [hstep])
    refine gd_eq hg ?_
    refine bnd_eq (x := .inl 1) hask ?_
    dsimp only
    refine bnd_eq (x := ()) rfl ?_
    refine bif_eq_f rfl ?_
    refine bnd_eq (x := (b, d)) (bif_eq_f rfl rfl) ?_
    dsimp only
    refine bnd_eq (x := false) ?_ (bif_eq_f rfl rfl)
    refine bnd_eq (x := ()) (bnd_eq (x := ()) (gd_eq H.len rfl) rfl) ?_
    refine bif_eq_f (bne_eq_false_iff_eq.2 H.made) ?_
    refine bnd_eq (x := ()) (bnd_eq (x := ()) (gd_eq H.len rfl) rfl) ?_
    simp
  | true =>
    rw [hh, if_pos rfl] at hask
    have hj : slot k n < t.length := by rw [H.len]; exact slot_lt hh
    have hal := ans_len hh
    have hb : (told t (slot k n) (ans k n) a b).2.2.2 = kwrap .i64 (b + 1) := by unfold told; split <;> rfl
    have h1 : (told t (slot k n) (ans k n) a b).1 = ans k n := (told_at hj (fun m hm => (H.old k n hh m hm).1)).1
    have hlen := told_len (ans k n) a b hj
    rw [H.len] at hlen
    generalize ht' : (told t (slot k n) (ans k n) a b).2.1 = t' at hask hlen
    generalize ha' : (told t (slot k n) (ans k n) a b).2.2.1 = a' at hask
    rw [hb, h1] at hask
    have key : ∃ d', Held t' a' d' (i + 1) ∧ d' = (bif (d.any (fun p => p == (kin k, n))) then d else d ++ [(kin k, n)]) := by
      by_cases hx : ∃ m, t[slot k n]? = some (some m)
      · obtain ⟨m, hm⟩ := hx
        have ho := H.old k n hh m hm
        rw [told_hit (ans k n) a b hm] at ht' ha'
        dsimp only at ht' ha'
        subst ht'; subst ha'
        refine ⟨d, ⟨H.len, H.made, by have := H.few; omega, H.old, H.new⟩, ?_⟩
        have : d.any (fun p => p == (kin k, n)) = true := List.any_eq_true.2 ⟨_, ho.2, beq_self_eq_true _⟩
        rw [this]; rfl
      · have hx' : ∀ m, t[slot k n]? ≠ some (some m) := fun m hm => hx ⟨m, hm⟩
        have hno : (kin k, n) ∉ d := fun hd => by
          have := (H.new _ hd).2
          dsimp only at this
          rw [slot_kin] at this
          exact hx' _ this
        have hany : d.any (fun p => p == (kin k, n)) = false := by
          cases he : d.any (fun p => p == (kin k, n)) with
          | false => rfl
          | true =>
            obtain ⟨p, hp, hq⟩ := List.any_eq_true.1 he
            rw [beq_iff_eq.1 hq] at hp
            exact absurd hp hno
        have hat := told_at (l := ans k n) (a := a) (b := b) hj (fun m hm => absurd hm (hx' m))
        have hsf := told_self (ans k n) a b hj hx'
        have hkeep : ∀ {q : Nat} {m : List Int}, t[q]? = some (some m) → t'[q]? = some (some m) := fun h => ht' ▸ told_keep (ans k n) a b hj h
        have hself : t'[slot k n]? = some (some (ans k n)) := by
          rw [← ht', hsf]
          dsimp only
          have hl : (t.take (slot k n)).length = slot k n := by rw [List.length_take]; omega
          rw [List.getElem?_append_right (by omega), hl, Nat.sub_self]; rfl
        have ha2 : a' = kwrap .i64 (a + 1) := by rw [← ha', hsf]
        have hfew := H.few
        have hmade := H.made
        rw [hany]
        refine ⟨d ++ [(kin k, n)], ⟨hlen, ?_, ?_, ?_, ?_⟩, rfl⟩
        · rw [ha2, hmade, kw_i64 (by omega) (by omega), List.length_append]; simp
        · rw [List.length_append]; simp; omega
        · intro k' n' hm' m hm
          rw [← ht'] at hm
          rcases hat.2 _ m hm with ⟨e, f⟩ | e
          · have hij := slot_inj hm' hh e
            refine ⟨f.trans (ans_inj hij.1 hij.2).symm, ?_⟩
            rw [hij.1, hij.2]
            exact List.mem_append_right _ (List.mem_singleton.2 rfl)
          · have ho := H.old k' n' hm' m e
            exact ⟨ho.1, List.mem_append_left _ ho.2⟩
        · intro p hp
          rcases List.mem_append.1 hp with hp | hp
          · have hq := H.new p hp
            exact ⟨hq.1, hkeep hq.2⟩
          · rw [List.mem_singleton.1 hp]
            dsimp only
            rw [may_kin, slot_kin, ans_inj (k' := k) (kin_kin k) rfl]
            exact ⟨hh, hself⟩
    obtain ⟨d', Hd, hd⟩ := key
    refine ⟨t', a', kwrap .i64 (b + 1), d', Hd, ?_⟩
    unfold psalterylaw04_BankTells.r0
    dsimp only
    rw [hk]
    refine bif_eq_t hgo ?_
    refine bnd_eq (x := .inl (kwrap .i64 (b + 1), t', a', kwrap .i64 (b + 1), d')) ?_ (by dsimp only; rw [hstep])
    refine gd_eq hg ?_
    refine bnd_eq hask ?_
    dsimp only
    refine bnd_eq (same_w hal.2) ?_
    rw [show (decide (((ans k n).length : Int) > 0)) = true from decide_eq_true (by omega)]
    refine bif_eq_f rfl ?_
    refine gd_eq hg ?_
    refine bnd_eq (x := kin k) ?_ ?_
    · unfold kin
      by_cases e0 : k = 0
      · subst e0; rfl
      · rw [if_neg e0]
        by_cases e1 : k = 1
        · subst e1; rfl
        · rw [if_neg e1]
          refine bif_eq_t ?_ rfl
          rw [show (k != 0) = true from bne_iff_ne.2 e0, show (k != 1) = true from bne_iff_ne.2 e1]; rfl
    · refine bnd_eq (found_w _ _ _ _ _ _ d (kin k) n (by have := H.few; omega)) ?_
      refine bnd_eq (x := d') ?_ ?_
      · rw [hd]
        have hfew := H.few
        cases d.any (fun p => p == (kin k, n)) with
        | true => rfl
        | false =>
          refine bif_eq_t rfl ?_
          exact gd_eq (by simp; omega) rfl
      · refine bnd_eq (x := false) ?_ (bif_eq_f rfl rfl)
        refine bnd_eq (x := ()) (bnd_eq (x := ()) (gd_eq Hd.len rfl) rfl) ?_
        refine bif_eq_f (bne_eq_false_iff_eq.2 Hd.made) ?_
        refine bnd_eq (x := ()) (bnd_eq (x := ()) (gd_eq Hd.len rfl) rfl) ?_
        simp

theorem loop_w (c0 : List (Int × Int)) (hc : c0.length ≤ 30) : ∀ (m i e : Nat) (t : List (Option (List Int))) (a b : Int) (d : List (Int × Int)), i + m = c0.length → Held t a d i →
    psalterylaw04_BankTells.l0 1100 c0 (m + e + 1) b (i : Int) t a b d = some (.inl ())
  | 0, i, e, t, a, b, d, h, H => by
    show psalterylaw04_BankTells.r0 1100 c0 (psalterylaw04_BankTells.l0 1100 c0 (0 + e)) b (i : Int) t a b d = _
    exact bif_eq_f (decide_eq_false (by omega)) rfl
  | m + 1, i, e, t, a, b, d, h, H => by
    show psalterylaw04_BankTells.r0 1100 c0 (psalterylaw04_BankTells.l0 1100 c0 (m + 1 + e)) b (i : Int) t a b d = _
    obtain ⟨t', a', b', d', H', hs⟩ := step_w c0 (psalterylaw04_BankTells.l0 1100 c0 (m + 1 + e)) i (by omega) (by omega) t a b d H
    rw [hs, show m + 1 + e = m + e + 1 by omega]
    exact loop_w c0 hc m (i + 1) e t' a' b' d' (by omega) H'
theorem bankTells_w (l : List (Int × Int)) : psalterylaw04_BankTells 1100 l = some true := by
  refine bnd_eq alive4_w ?_
  refine bif_eq_f rfl ?_
  by_cases h : l.length ≤ 30
  · refine bif_eq_f (decide_eq_false (by omega)) ?_
    refine bnd_eq (x := ()) rfl ?_
    refine bnd_eq (x := .inl ()) ?_ rfl
    obtain ⟨e, he⟩ : ∃ e, 1100 = l.length + e + 1 := ⟨1100 - l.length - 1, by omega⟩
    have hl := loop_w l h l.length 0 e (List.replicate 388 none) 0 0 [] (by omega) ⟨List.length_replicate, rfl, by simp, fun k n _ m hm => by
      rw [List.getElem?_replicate] at hm
      split at hm <;> simp at hm, fun p hp => by simp at hp⟩
    rw [← he] at hl
    exact hl
  · exact bif_eq_t (decide_eq_true (by omega)) rfl
end Go.Fo
