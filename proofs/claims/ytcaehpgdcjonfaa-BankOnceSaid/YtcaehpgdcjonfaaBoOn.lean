/- Whatever was asked ahead, the same is told: the plain fact. -/
import Derived.Test.YtcaehpgdcjonfaaBoTb
namespace Go.Fo
set_option maxRecDepth 6000
theorem alive4_w : psalterylaw04_alive 1100 = some true := by kernel_rfl
theorem turn_no (K : Nat) (n : Int) (t : List (Option (List Int))) (a b : Int) (h : mayTurn n = false) : bank_Bank_Turn K n t a b = some (.inl 1) := by
  unfold bank_Bank_Turn
  have hv : (bif (bif decide (n ≥ 4) then decide (n ≤ 1024) else false) then (Int.tmod n 4 == 0) else false) = mayTurn n := by
    unfold mayTurn
    by_cases h4 : 4 ≤ n
    · rw [Int.tmod_eq_emod_of_nonneg (by omega)]
      cases hd : decide (n ≤ 1024) <;> simp [h4]
    · simp [h4]
  dsimp only
  rw [hv, h]; rfl
theorem slope_no (K : Nat) (n : Int) (t : List (Option (List Int))) (a b : Int) (h : maySlope n = false) : bank_Bank_Slope K n t a b = some (.inl 1) := by
  unfold bank_Bank_Slope
  have hv : (bif decide (n ≥ 1) then decide (n ≤ 128) else false) = maySlope n := by
    unfold maySlope
    by_cases h4 : 1 ≤ n
    · simp [h4]
    · simp [h4]
  dsimp only
  rw [hv, h]; rfl
theorem filt_no (n : Int) (t : List (Option (List Int))) (a b : Int) (h : mayFilt n = false) : bank_Bank_Filter 1100 n t a b = some (.inl 1) := by
  unfold bank_Bank_Filter
  have hv : (bif (n == 4) then true else (n == 8)) = mayFilt n := by unfold mayFilt; cases h : n == 4 <;> rfl
  dsimp only
  rw [hv, h]; rfl

/-- a question: its kind, whether it may be asked, its place, its answer -/
def kin (k : Int) : Int := if k = 0 then 0 else if k = 1 then 1 else 2
def may (k n : Int) : Bool := if k = 0 then mayTurn n else if k = 1 then maySlope n else mayFilt n
def slot (k n : Int) : Nat := if k = 0 then (n / 4).toNat else if k = 1 then 257 + n.toNat else 386 + (n / 8).toNat
def ans (k n : Int) : List Int := if k = 0 then tabOf (turnF n) n.toNat else if k = 1 then tabOf (slopeF n) n.toNat else tabOf (filtF n) (10 * n).toNat
theorem may_turn {n : Int} (h : mayTurn n = true) : 4 ≤ n ∧ n ≤ 1024 ∧ n % 4 = 0 := by
  unfold mayTurn at h
  simp only [Bool.and_eq_true, decide_eq_true_eq, beq_iff_eq] at h
  exact ⟨h.1.1, h.1.2, h.2⟩
theorem may_slope {n : Int} (h : maySlope n = true) : 1 ≤ n ∧ n ≤ 128 := by
  unfold maySlope at h
  simp only [Bool.and_eq_true, decide_eq_true_eq] at h
  exact h
theorem may_filt {n : Int} (h : mayFilt n = true) : n = 4 ∨ n = 8 := by
  unfold mayFilt at h
  simp only [Bool.or_eq_true, beq_iff_eq] at h
  exact h
theorem slot_lt {k n : Int} (h : may k n = true) : slot k n < 388 := by
  unfold may at h; unfold slot
  by_cases e0 : k = 0
  · rw [if_pos e0] at h ⊢; have := may_turn h; omega
  · rw [if_neg e0] at h ⊢
    by_cases e1 : k = 1
    · rw [if_pos e1] at h ⊢; have := may_slope h; omega
    · rw [if_neg e1] at h ⊢; have := may_filt h; omega
theorem slot_inj {k n k' n' : Int} (h : may k n = true) (h' : may k' n' = true) (e : slot k n = slot k' n') : kin k = kin k' ∧ n = n' := by
  unfold may at h h'; unfold slot at e; unfold kin
  by_cases e0 : k = 0
  · rw [if_pos e0] at h e ⊢
    have := may_turn h
    by_cases f0 : k' = 0
    · rw [if_pos f0] at h' e ⊢; have := may_turn h'; omega
    · rw [if_neg f0] at h' e ⊢
      by_cases f1 : k' = 1
      · rw [if_pos f1] at h' e ⊢; have := may_slope h'; omega
      · rw [if_neg f1] at h' e ⊢; have := may_filt h'; omega
  · rw [if_neg e0] at h e ⊢
    by_cases e1 : k = 1
    · rw [if_pos e1] at h e ⊢
      have := may_slope h
      by_cases f0 : k' = 0
      · rw [if_pos f0] at h' e ⊢; have := may_turn h'; omega
      · rw [if_neg f0] at h' e ⊢
        by_cases f1 : k' = 1
        · rw [if_pos f1] at h' e ⊢; have := may_slope h'; omega
        · rw [if_neg f1] at h' e ⊢; have := may_filt h'; omega
    · rw [if_neg e1] at h e ⊢
      have := may_filt h
      by_cases f0 : k' = 0
      · rw [if_pos f0] at h' e ⊢; have := may_turn h'; omega
      · rw [if_neg f0] at h' e ⊢
        by_cases f1 : k' = 1
        · rw [if_pos f1] at h' e ⊢; have := may_slope h'; omega
        · rw [if_neg f1] at h' e ⊢; have := may_filt h'; omega
theorem kin_kin (k : Int) : kin (kin k) = kin k := by
  unfold kin
  by_cases e0 : k = 0
  · rw [if_pos e0]; rfl
  · rw [if_neg e0]
    by_cases e1 : k = 1
    · rw [if_pos e1]; rfl
    · rw [if_neg e1]; rfl
theorem slot_kin (k n : Int) : slot (kin k) n = slot k n := by
  unfold slot kin
  by_cases e0 : k = 0
  · rw [if_pos e0, if_pos e0, if_pos rfl]
  · rw [if_neg e0, if_neg e0]
    by_cases e1 : k = 1
    · rw [if_pos e1, if_pos e1]; rfl
    · rw [if_neg e1, if_neg e1]; rfl
theorem may_kin (k n : Int) : may (kin k) n = may k n := by
  unfold may kin
  by_cases e0 : k = 0
  · rw [if_pos e0, if_pos e0, if_pos rfl]
  · rw [if_neg e0, if_neg e0]
    by_cases e1 : k = 1
    · rw [if_pos e1, if_pos e1]; rfl
    · rw [if_neg e1, if_neg e1]; rfl
theorem ans_inj {k n k' n' : Int} (e : kin k = kin k') (f : n = n') : ans k n = ans k' n' := by
  subst f
  unfold kin at e; unfold ans
  by_cases e0 : k = 0
  · rw [if_pos e0] at e ⊢
    by_cases f0 : k' = 0
    · rw [if_pos f0]
    · rw [if_neg f0] at e
      by_cases f1 : k' = 1
      · rw [if_pos f1] at e; omega
      · rw [if_neg f1] at e; omega
  · rw [if_neg e0] at e ⊢
    by_cases e1 : k = 1
    · rw [if_pos e1] at e ⊢
      by_cases f0 : k' = 0
      · rw [if_pos f0] at e; omega
      · rw [if_neg f0] at e ⊢
        by_cases f1 : k' = 1
        · rw [if_pos f1]
        · rw [if_neg f1] at e; omega
    · rw [if_neg e1] at e ⊢
      by_cases f0 : k' = 0
      · rw [if_pos f0] at e; omega
      · rw [if_neg f0] at e ⊢
        by_cases f1 : k' = 1
        · rw [if_pos f1] at e; omega
        · rw [if_neg f1]
theorem ans_len {k n : Int} (h : may k n = true) : 1 ≤ (ans k n).length ∧ (ans k n).length ≤ 1024 := by
  unfold may at h; unfold ans
  by_cases e0 : k = 0
  · rw [if_pos e0] at h ⊢; have := may_turn h; rw [tabOf_len]; omega
  · rw [if_neg e0] at h ⊢
    by_cases e1 : k = 1
    · rw [if_pos e1] at h ⊢; have := may_slope h; rw [tabOf_len]; omega
    · rw [if_neg e1] at h ⊢; have := may_filt h; rw [tabOf_len]; omega

theorem ask_w (k n : Int) (t : List (Option (List Int))) (a b : Int) (hl : t.length = 388) (hm : may k n = true → ∀ m, t[slot k n]? = some (some m) → m = ans k n) :
    psalterylaw04_ask 1100 k n t a b = if may k n = true then some (.inr (.inr (.inr (ans k n, (told t (slot k n) (ans k n) a b).2.1, (told t (slot k n) (ans k n) a b).2.2.1, (told t (slot k n) (ans k n) a b).2.2.2, (told t (slot k n) (ans k n) a b).1)))) else some (.inl 1) := by
  unfold psalterylaw04_ask
  unfold may slot ans at hm
  unfold may slot ans
  by_cases e0 : k = 0
  · simp only [if_pos e0] at hm ⊢
    refine bif_eq_t (beq_iff_eq.2 e0) ?_
    rw [rturn_w 1100 (by decide) n]
    cases hh : mayTurn n with
    | true =>
      rw [turn_w 1100 (by decide) n t a b hl (hm hh), hh]; rfl
    | false =>
      rw [turn_no 1100 n t a b hh]; rfl
  · simp only [if_neg e0] at hm ⊢
    refine bif_eq_f (beq_eq_false_iff_ne.2 e0) ?_
    by_cases e1 : k = 1
    · simp only [if_pos e1] at hm ⊢
      refine bif_eq_t (beq_iff_eq.2 e1) ?_
      rw [rslope_w 1100 (by decide) n]
      cases hh : maySlope n with
      | true =>
        rw [slope_w 1100 (by decide) n t a b hl (hm hh), hh]; rfl
      | false =>
        rw [slope_no 1100 n t a b hh]; rfl
    · simp only [if_neg e1] at hm ⊢
      refine bif_eq_f (beq_eq_false_iff_ne.2 e1) ?_
      rw [rfilt_w n]
      cases hh : mayFilt n with
      | true =>
        rw [filt_w n t a b hl (hm hh), hh]; rfl
      | false =>
        rw [filt_no n t a b hh]; rfl

theorem same_w {l : List Int} (hl : l.length ≤ 1024) : psalteryref04_Same_2 1100 l l = some true := by
  refine bif_eq_f (by simp) ?_
  refine bnd_eq (x := .inl ()) ?_ rfl
  refine cnt_loop0 (r := psalteryref04_Same_2.r0 1100 l l) l.length (some (.inl ())) (fun next k hk => ?_) (fun next => ?_) (by omega)
  · refine bif_eq_t (decide_eq_true (by omega)) ?_
    refine gd_eq (by omega) ?_
    refine gd_eq (by omega) ?_
    refine bif_eq_f (by simp) ?_
    show next _ = _
    rw [kw_i64 (by omega) (by omega)]; rfl
  · exact bif_eq_f (decide_eq_false (by omega)) rfl

theorem told_len {t : List (Option (List Int))} {j : Nat} (l : List Int) (a b : Int) (hj : j < t.length) : (told t j l a b).2.1.length = t.length := by
  unfold told
  split
  · rfl
  · simp only [List.length_append, List.length_take, List.length_cons, List.length_drop]; omega
theorem told_keep {t : List (Option (List Int))} {j : Nat} (l : List Int) (a b : Int) (hj : j < t.length) {q : Nat} {m : List Int} (h : t[q]? = some (some m)) : (told t j l a b).2.1[q]? = some (some m) := by
  unfold told
  split
  · exact h
  · rename_i hn
    have hl : (t.take j).length = j := by rw [List.length_take]; omega
    dsimp only
    rcases Nat.lt_trichotomy q j with e | e | e
    · rw [List.getElem?_append_left (by omega), List.getElem?_take, if_pos e]; exact h
    · subst e; exact absurd h (hn m)
    · rw [List.getElem?_append_right (by omega), hl, show q - j = (q - j - 1) + 1 by omega, List.getElem?_cons_succ, List.getElem?_drop, show j + 1 + (q - j - 1) = q by omega]; exact h
theorem told_self {t : List (Option (List Int))} {j : Nat} (l : List Int) (a b : Int) (hj : j < t.length) (h : ∀ m, t[j]? ≠ some (some m)) : told t j l a b = (l, t.take j ++ some l :: t.drop (j + 1), kwrap .i64 (a + 1), kwrap .i64 (b + 1)) := by
  unfold told
  split
  · rename_i m hm; exact absurd hm (h m)
  · rfl
theorem told_hit {t : List (Option (List Int))} {j : Nat} (l : List Int) (a b : Int) {m : List Int} (h : t[j]? = some (some m)) : told t j l a b = (m, t, a, kwrap .i64 (b + 1)) := by
  unfold told
  rw [h]


/-- what holds between two questions -/
structure Held (t : List (Option (List Int))) : Prop where
  len : t.length = 388
  old : ∀ k n, may k n = true → ∀ m, t[slot k n]? = some (some m) → m = ans k n
theorem ask_no {k n : Int} {t : List (Option (List Int))} (a b : Int) (H : Held t) (h : may k n = false) : psalterylaw04_ask 1100 k n t a b = some (.inl 1) := by
  have := ask_w k n t a b H.len (fun h m hm => H.old k n h m hm)
  rw [h, if_neg (by decide)] at this
  exact this
theorem ask_yes {k n : Int} {t : List (Option (List Int))} (a b : Int) (H : Held t) (h : may k n = true) :
    ∃ t' a' b', Held t' ∧ t'[slot k n]? = some (some (ans k n)) ∧ (a' = a ∨ a' = kwrap .i64 (a + 1)) ∧ (t[slot k n]? = some (some (ans k n)) → a' = a) ∧ psalterylaw04_ask 1100 k n t a b = some (.inr (.inr (.inr (ans k n, t', a', b', ans k n)))) := by
  have hask := ask_w k n t a b H.len (fun h m hm => H.old k n h m hm)
  rw [h, if_pos rfl] at hask
  have hj : slot k n < t.length := by rw [H.len]; exact slot_lt h
  have hat := told_at (l := ans k n) (a := a) (b := b) hj (fun m hm => H.old k n h m hm)
  have hlen := told_len (ans k n) a b hj
  rw [H.len] at hlen
  rw [hat.1] at hask
  refine ⟨_, _, _, ⟨hlen, fun k' n' hm' m hm => ?_⟩, ?_, ?_, ?_, hask⟩
  · rcases hat.2 _ m hm with ⟨e, f⟩ | e
    · have hij := slot_inj hm' h e
      exact f.trans (ans_inj hij.1 hij.2).symm
    · exact H.old k' n' hm' m e
  · by_cases hx : ∃ m, t[slot k n]? = some (some m)
    · obtain ⟨m, hm⟩ := hx
      have := H.old k n h m hm
      subst this
      exact told_keep _ a b hj hm
    · rw [told_self (ans k n) a b hj (fun m hm => hx ⟨m, hm⟩)]
      dsimp only
      have hl : (t.take (slot k n)).length = slot k n := by rw [List.length_take]; omega
      rw [List.getElem?_append_right (by omega), hl, Nat.sub_self]; rfl
  · unfold told; split
    · exact .inl rfl
    · exact .inr rfl
  · intro hx; rw [told_hit (ans k n) a b hx]

theorem seven0_w (u0 : List (Int × Int)) (u1 : Int) (u2 : Int) (u3 : Int) (u4 : Int) (u5 : List (Option (List Int))) (u6 : Int) (u7 : Int) : ∀ (m i e : Nat) (x : List Int), x.length = i + m → m + i ≤ 2000 → psalterylaw04_BankOnce.l2 1100 u0 u1 u2 u3 u4 u5 u6 u7 (m + e + 1) (i : Int) x = some ()
  | 0, i, e, x, h, _ => by
    show psalterylaw04_BankOnce.r2 1100 u0 u1 u2 u3 u4 u5 u6 u7 (psalterylaw04_BankOnce.l2 1100 u0 u1 u2 u3 u4 u5 u6 u7 (0 + e)) (i : Int) x = _
    exact bif_eq_f (decide_eq_false (by omega)) rfl
  | m + 1, i, e, x, h, h2 => by
    show psalterylaw04_BankOnce.r2 1100 u0 u1 u2 u3 u4 u5 u6 u7 (psalterylaw04_BankOnce.l2 1100 u0 u1 u2 u3 u4 u5 u6 u7 (m + 1 + e)) (i : Int) x = _
    refine bif_eq_t (decide_eq_true (by omega)) ?_
    refine gd_eq (by omega) ?_
    rw [kw_i64 (by omega) (by omega), show m + 1 + e = m + e + 1 by omega]
    exact seven0_w u0 u1 u2 u3 u4 u5 u6 u7 m (i + 1) e _ (by rw [List.length_set]; omega) (by omega)
theorem loop0_w (c0 : List (Int × Int)) (hc : c0.length ≤ 30) (c1 : Int) (c2 : Int) (c3 : Int) : ∀ (m i e : Nat) (t : List (Option (List Int))) (a b : Int), i + m = c0.length → Held t →
    ∃ t' a' b', Held t' ∧ psalterylaw04_BankOnce.l0 1100 c0 c1 c2 c3 (m + e + 1) (i : Int) t a b = some (t', a', b')
  | 0, i, e, t, a, b, h, H => ⟨t, a, b, H, by
    show psalterylaw04_BankOnce.r0 1100 c0 c1 c2 c3 (psalterylaw04_BankOnce.l0 1100 c0 c1 c2 c3 (0 + e)) (i : Int) t a b = _
    exact bif_eq_f (decide_eq_false (by omega)) rfl⟩
  | m + 1, i, e, t, a, b, h, H => by
    have hstep : kwrap .i64 ((i : Int) + 1) = ((i + 1 : Nat) : Int) := by rw [kw_i64 (by omega) (by omega)]; omega
    obtain ⟨k, n, hk⟩ : ∃ k n, (Kd.nth (.pair (.int .i64) (.int .i64)) c0 (Int.toNat (i : Int)) : Int × Int) = (k, n) := ⟨_, _, rfl⟩
    have key : ∃ t' a' b', Held t' ∧ psalterylaw04_BankOnce.r0 1100 c0 c1 c2 c3 (psalterylaw04_BankOnce.l0 1100 c0 c1 c2 c3 (m + 1 + e)) (i : Int) t a b = psalterylaw04_BankOnce.l0 1100 c0 c1 c2 c3 (m + 1 + e) ((i + 1 : Nat) : Int) t' a' b' := by
      cases hh : may k n with
      | false =>
        refine ⟨t, a, b, H, ?_⟩
        unfold psalterylaw04_BankOnce.r0
        dsimp only
        rw [hk]
        refine bif_eq_t (decide_eq_true (by omega)) ?_
        refine bnd_eq (x := (t, a, b)) ?_ (by dsimp only; rw [hstep])
        refine gd_eq (by omega) ?_
        refine bnd_eq (ask_no a b H hh) ?_
        exact bnd_eq (x := ()) rfl rfl
      | true =>
        obtain ⟨t', a', b', H', _, _, _, hask⟩ := ask_yes a b H hh
        refine ⟨t', a', b', H', ?_⟩
        unfold psalterylaw04_BankOnce.r0
        dsimp only
        rw [hk]
        refine bif_eq_t (decide_eq_true (by omega)) ?_
        refine bnd_eq (x := (t', a', b')) ?_ (by dsimp only; rw [hstep])
        refine gd_eq (by omega) ?_
        refine bnd_eq hask ?_
        have hal := ans_len hh
        obtain ⟨e, he⟩ : ∃ e, 1100 = (ans k n).length + e + 1 := ⟨1100 - (ans k n).length - 1, by omega⟩
        have hs := seven0_w c0 c1 (i : Int) c2 c3 t' a' b' (ans k n).length 0 e (ans k n) (by omega) (by omega)
        rw [← he] at hs
        exact bnd_eq hs rfl
    obtain ⟨t', a', b', H', hs⟩ := key
    obtain ⟨t2, a2, b2, H2, h2⟩ := loop0_w c0 hc c1 c2 c3 m (i + 1) e t' a' b' (by omega) H'
    refine ⟨t2, a2, b2, H2, ?_⟩
    show psalterylaw04_BankOnce.r0 1100 c0 c1 c2 c3 (psalterylaw04_BankOnce.l0 1100 c0 c1 c2 c3 (m + 1 + e)) (i : Int) t a b = _
    rw [hs, show m + 1 + e = m + e + 1 by omega]
    exact h2

theorem seven3_w (u0 : List (Int × Int)) (u1 : Int) (u2 : Int) (u3 : Int) (u4 : List (Option (List Int))) (u5 : Int) (u6 : Int) (u7 : List Int) : ∀ (m i e : Nat) (x : List Int), x.length = i + m → m + i ≤ 2000 → psalterylaw04_BankOnce.l5 1100 u0 u1 u2 u3 u4 u5 u6 u7 (m + e + 1) (i : Int) x = some ()
  | 0, i, e, x, h, _ => by
    show psalterylaw04_BankOnce.r5 1100 u0 u1 u2 u3 u4 u5 u6 u7 (psalterylaw04_BankOnce.l5 1100 u0 u1 u2 u3 u4 u5 u6 u7 (0 + e)) (i : Int) x = _
    exact bif_eq_f (decide_eq_false (by omega)) rfl
  | m + 1, i, e, x, h, h2 => by
    show psalterylaw04_BankOnce.r5 1100 u0 u1 u2 u3 u4 u5 u6 u7 (psalterylaw04_BankOnce.l5 1100 u0 u1 u2 u3 u4 u5 u6 u7 (m + 1 + e)) (i : Int) x = _
    refine bif_eq_t (decide_eq_true (by omega)) ?_
    refine gd_eq (by omega) ?_
    rw [kw_i64 (by omega) (by omega), show m + 1 + e = m + e + 1 by omega]
    exact seven3_w u0 u1 u2 u3 u4 u5 u6 u7 m (i + 1) e _ (by rw [List.length_set]; omega) (by omega)
theorem loop3_w (c0 : List (Int × Int)) (hc : c0.length ≤ 30) (c1 : Int) (c2 : Int) (c3 : List Int) : ∀ (m i e : Nat) (t : List (Option (List Int))) (a b : Int), i + m = c0.length → Held t →
    ∃ t' a' b', Held t' ∧ psalterylaw04_BankOnce.l3 1100 c0 c1 c2 c3 (m + e + 1) (i : Int) t a b = some (t', a', b')
  | 0, i, e, t, a, b, h, H => ⟨t, a, b, H, by
    show psalterylaw04_BankOnce.r3 1100 c0 c1 c2 c3 (psalterylaw04_BankOnce.l3 1100 c0 c1 c2 c3 (0 + e)) (i : Int) t a b = _
    exact bif_eq_f (decide_eq_false (by omega)) rfl⟩
  | m + 1, i, e, t, a, b, h, H => by
    have hstep : kwrap .i64 ((i : Int) + 1) = ((i + 1 : Nat) : Int) := by rw [kw_i64 (by omega) (by omega)]; omega
    obtain ⟨k, n, hk⟩ : ∃ k n, (Kd.nth (.pair (.int .i64) (.int .i64)) c0 (Int.toNat (i : Int)) : Int × Int) = (k, n) := ⟨_, _, rfl⟩
    have key : ∃ t' a' b', Held t' ∧ psalterylaw04_BankOnce.r3 1100 c0 c1 c2 c3 (psalterylaw04_BankOnce.l3 1100 c0 c1 c2 c3 (m + 1 + e)) (i : Int) t a b = psalterylaw04_BankOnce.l3 1100 c0 c1 c2 c3 (m + 1 + e) ((i + 1 : Nat) : Int) t' a' b' := by
      cases hh : may k n with
      | false =>
        refine ⟨t, a, b, H, ?_⟩
        unfold psalterylaw04_BankOnce.r3
        dsimp only
        rw [hk]
        refine bif_eq_t (decide_eq_true (by omega)) ?_
        refine bnd_eq (x := (t, a, b)) ?_ (by dsimp only; rw [hstep])
        refine gd_eq (by omega) ?_
        refine bnd_eq (ask_no a b H hh) ?_
        exact bnd_eq (x := ()) rfl rfl
      | true =>
        obtain ⟨t', a', b', H', _, _, _, hask⟩ := ask_yes a b H hh
        refine ⟨t', a', b', H', ?_⟩
        unfold psalterylaw04_BankOnce.r3
        dsimp only
        rw [hk]
        refine bif_eq_t (decide_eq_true (by omega)) ?_
        refine bnd_eq (x := (t', a', b')) ?_ (by dsimp only; rw [hstep])
        refine gd_eq (by omega) ?_
        refine bnd_eq hask ?_
        have hal := ans_len hh
        obtain ⟨e, he⟩ : ∃ e, 1100 = (ans k n).length + e + 1 := ⟨1100 - (ans k n).length - 1, by omega⟩
        have hs := seven3_w c0 (i : Int) c1 c2 t' a' b' c3 (ans k n).length 0 e (ans k n) (by omega) (by omega)
        rw [← he] at hs
        exact bnd_eq hs rfl
    obtain ⟨t', a', b', H', hs⟩ := key
    obtain ⟨t2, a2, b2, H2, h2⟩ := loop3_w c0 hc c1 c2 c3 m (i + 1) e t' a' b' (by omega) H'
    refine ⟨t2, a2, b2, H2, ?_⟩
    show psalterylaw04_BankOnce.r3 1100 c0 c1 c2 c3 (psalterylaw04_BankOnce.l3 1100 c0 c1 c2 c3 (m + 1 + e)) (i : Int) t a b = _
    rw [hs, show m + 1 + e = m + e + 1 by omega]
    exact h2

theorem less1 {a a' : Int} (h : a' = a ∨ a' = kwrap .i64 (a + 1)) : decide (kwrap .i64 (a' - a) ≤ 1) = true := by
  rcases h with rfl | rfl
  · rw [Int.sub_self]; rfl
  · rw [kw_sub_l, show a + 1 - a = 1 by omega]; rfl
theorem held0 : Held (List.replicate 388 none) := ⟨List.length_replicate, fun k n _ m hm => by
  rw [List.getElem?_replicate] at hm
  split at hm <;> simp at hm⟩
theorem made_w {t : List (Option (List Int))} (a b : Int) (H : Held t) : bank_Bank_Made 1100 t a b = some () := bnd_eq (x := ()) (gd_eq H.len rfl) rfl
theorem bankOnce_w (l : List (Int × Int)) (k n : Int) : psalterylaw04_BankOnce 1100 l k n = some true := by
  refine bnd_eq alive4_w ?_
  refine bif_eq_f rfl ?_
  by_cases h : l.length ≤ 30
  · refine bif_eq_f (decide_eq_false (by omega)) ?_
    refine bnd_eq (x := ()) rfl ?_
    refine bnd_eq (x := ()) rfl ?_
    obtain ⟨e, he⟩ : ∃ e, 1100 = l.length + e + 1 := ⟨1100 - l.length - 1, by omega⟩
    cases hh : may k n with
    | false =>
      refine bnd_eq (ask_no 0 0 held0 hh) ?_
      dsimp only
      obtain ⟨t, a, b, H, hl⟩ := loop0_w l h 1 k n l.length 0 e (List.replicate 388 none) 0 0 (by omega) held0
      rw [← he] at hl
      refine bnd_eq hl ?_
      refine bnd_eq (made_w a b H) ?_
      refine bnd_eq (ask_no a b H hh) ?_
      refine bnd_eq (made_w a b H) ?_
      refine bnd_eq (ask_no a b H hh) ?_
      refine bnd_eq (x := true) ?_ rfl
      refine bif_eq_t rfl ?_
      refine bnd_eq (x := ()) rfl ?_
      refine bnd_eq (x := ()) rfl ?_
      refine bif_eq_t (less1 (.inl rfl)) ?_
      refine bnd_eq (made_w a b H) ?_
      simp
    | true =>
      have hal := ans_len hh
      obtain ⟨t0, a0, b0, H0, _, _, _, h0⟩ := ask_yes 0 0 held0 hh
      refine bnd_eq h0 ?_
      dsimp only
      obtain ⟨t, a, b, H, hl⟩ := loop3_w l h k n (ans k n) l.length 0 e (List.replicate 388 none) 0 0 (by omega) held0
      rw [← he] at hl
      refine bnd_eq hl ?_
      refine bnd_eq (made_w a b H) ?_
      obtain ⟨t1, a1, b1, H1, hs1, ha1, _, h1⟩ := ask_yes a b H hh
      refine bnd_eq h1 ?_
      refine bnd_eq (made_w a1 b1 H1) ?_
      obtain ⟨t2, a2, b2, H2, _, _, ha2, h2⟩ := ask_yes a1 b1 H1 hh
      refine bnd_eq h2 ?_
      refine bnd_eq (x := true) ?_ rfl
      refine bnd_eq (same_w hal.2) ?_
      refine bif_eq_t rfl ?_
      refine bnd_eq (same_w hal.2) ?_
      refine bif_eq_t (by rw [less1 ha1]; rfl) ?_
      refine bnd_eq (made_w a2 b2 H2) ?_
      rw [ha2 hs1]
      simp
  · exact bif_eq_t (decide_eq_true (by omega)) rfl
end Go.Fo
