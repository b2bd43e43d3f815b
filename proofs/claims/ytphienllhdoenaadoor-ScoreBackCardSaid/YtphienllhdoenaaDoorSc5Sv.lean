/- A score's numbers and words: what the program reads, and what the document does. -/
import Derived.Test.YtphienllhdoenaaDoorSc5St
import Derived.Test.YtphienllhdoenaaDoorJ3
namespace Go.Fo
set_option maxRecDepth 6000
abbrev Slot := Int × (Int × (Int × Int))
abbrev Step := Int × (Int × (List Int × (List Int × (List Int × List Slot))))
def dig (c : UInt8) : Bool := decide (48 ≤ c.toNat) && decide (c.toNat ≤ 57)
def val (l : List UInt8) : Int := l.foldl (fun n c => 10 * n + ((c.toNat : Int) - 48)) 0
theorem val_snoc (l : List UInt8) (c : UInt8) : val (l ++ [c]) = 10 * val l + ((c.toNat : Int) - 48) := by unfold val; rw [List.foldl_append]; rfl
theorem dig_b {c : UInt8} (h : dig c = true) : 48 ≤ c.toNat ∧ c.toNat ≤ 57 := by
  unfold dig at h; simpa using h
theorem fold_b : ∀ (l : List UInt8) (n b : Int), l.all dig = true → 0 ≤ n → n < b → 0 ≤ l.foldl (fun n c => 10 * n + ((c.toNat : Int) - 48)) n ∧ l.foldl (fun n c => 10 * n + ((c.toNat : Int) - 48)) n < b * 10 ^ l.length
  | [], n, b, _, h0, h1 => ⟨h0, by simpa using h1⟩
  | c :: l, n, b, h, h0, h1 => by
    rw [List.all_cons, Bool.and_eq_true] at h
    have hc := dig_b h.1
    have := fold_b l (10 * n + ((c.toNat : Int) - 48)) (b * 10) h.2 (by omega) (by omega)
    rw [List.foldl_cons, List.length_cons, Int.pow_succ, Int.mul_comm ((10 : Int) ^ l.length) 10, ← Int.mul_assoc]
    exact this
theorem val_b {l : List UInt8} (h : l.all dig = true) (hl : l.length ≤ 10) : 0 ≤ val l ∧ val l < 10000000000 := by
  have := fold_b l 0 1 h (by decide) (by decide)
  have h2 : (10 : Int) ^ l.length ≤ 10 ^ 10 := by
    have := Nat.pow_le_pow_right (n := 10) (by decide) hl
    exact_mod_cast this
  unfold val
  omega
def num (w : ByteArray) (m : Int) : Option Int := if (1 ≤ w.size ∧ w.size ≤ 10 ∧ ¬ (1 < w.size ∧ sbyte w 0 = 48)) ∧ (bl w).all dig = true ∧ val (bl w) ≤ m then some (val (bl w)) else none
theorem num_b {w : ByteArray} {m n : Int} (h : num w m = some n) : 0 ≤ n ∧ n ≤ m := by
  unfold num at h
  split at h
  · rename_i hc
    simp only [Option.some.injEq] at h; subst h
    exact ⟨(val_b hc.2.1 (by rw [bl_len]; exact hc.1.2.1)).1, hc.2.2⟩
  · cases h
theorem take10 (l : List UInt8) (i : Nat) (h : i = l.length) : l.take (min i 10) = l.take 10 := by
  subst h
  rw [List.take_eq_take_iff]; omega
theorem bl_drop {w : ByteArray} {i : Nat} (h : i < w.size) : (bl w).drop i = (bl w)[i]'(by rw [bl_len]; exact h) :: (bl w).drop (i + 1) := List.drop_eq_getElem_cons (by rw [bl_len]; exact h)
theorem bl_take {w : ByteArray} {i : Nat} (h : i < w.size) : (bl w).take (i + 1) = (bl w).take i ++ [(bl w)[i]'(by rw [bl_len]; exact h)] := by
  rw [List.take_add_one, List.getElem?_eq_getElem (by rw [bl_len]; exact h)]; rfl
theorem nodig {c : UInt8} : (bif decide ((c.toNat : Int) < 48) then true else decide ((c.toNat : Int) > 57)) = !dig c := by
  unfold dig
  by_cases h1 : c.toNat < 48
  · rw [decide_eq_true (by omega), decide_eq_false (p := 48 ≤ c.toNat) (by omega)]; rfl
  · rw [decide_eq_false (by omega), decide_eq_true (p := 48 ≤ c.toNat) (by omega)]
    by_cases h2 : c.toNat ≤ 57
    · rw [decide_eq_false (by omega), decide_eq_true h2]; rfl
    · rw [decide_eq_true (by omega), decide_eq_false h2]; rfl
theorem vloop (K : Nat) (w : ByteArray) (most : Int) (ws : List ByteArray) (bad : Bool) (hw : w.size ≤ 100000) : ∀ (m i e : Nat), i + m = w.size → ((bl w).take i).all dig = true →
    score_reader_value_2.l0 K w most (w.size : Int) ws bad (m + e + 1) (val ((bl w).take (min i 10))) (i : Int) = some (if ((bl w).drop i).all dig = true then .inl (val ((bl w).take 10)) else .inr (0, true))
  | 0, i, e, hi, hd => by
    show score_reader_value_2.r0 K w most (w.size : Int) ws bad _ _ _ = _
    rw [take10 _ i (by rw [bl_len]; omega), List.drop_of_length_le (by rw [bl_len]; omega)]
    exact bif_eq_f (decide_eq_false (by omega)) rfl
  | m + 1, i, e, hi, hd => by
    have hlt : i < w.size := by omega
    show score_reader_value_2.r0 K w most (w.size : Int) ws bad (score_reader_value_2.l0 K w most (w.size : Int) ws bad (m + 1 + e)) _ _ = _
    refine bif_eq_t (decide_eq_true (by omega)) ?_
    have hs : sbyte w (Int.toNat (i : Int)) = _ := sbyte_at w i hlt
    dsimp only
    rw [hs, bl_drop hlt, List.all_cons]
    generalize hc : (bl w)[i]'(by rw [bl_len]; exact hlt) = c
    rcases Bool.eq_false_or_eq_true (dig c) with hdc | hdc
    · have hcb := dig_b hdc
      have hd' : ((bl w).take (i + 1)).all dig = true := by rw [bl_take hlt, List.all_append, hd, hc]; simp [hdc]
      have ih := vloop K w most ws bad hw m (i + 1) e (by omega) hd'
      rw [hdc, Bool.true_and, ← ih]
      refine bnd_eq (x := .inl (val ((bl w).take (min (i + 1) 10)))) ?_ ?_
      · refine gd_eq ⟨by omega, by omega, fun _ => by omega, fun _ => by omega⟩ ?_
        refine bif_eq_f (by rw [nodig, hdc]; rfl) ?_
        by_cases h10 : i < 10
        · refine bif_eq_t (decide_eq_true (by omega)) ?_
          refine gd_eq ⟨by omega, by omega⟩ ?_
          have hb := val_b hd (by rw [List.length_take]; omega)
          rw [show min i 10 = i by omega, show min (i + 1) 10 = i + 1 by omega, bl_take hlt, val_snoc, hc, kw_u8, kw_i64 (x := 10 * val ((bl w).take i)) (by omega) (by omega), kw_i64 (x := ((c.toNat : Int) - 48) % 256) (by omega) (by omega), Int.emod_eq_of_lt (by omega) (by omega), kw_i64 (by omega) (by omega)]
        · refine bif_eq_f (decide_eq_false (by omega)) ?_
          rw [show min i 10 = 10 by omega, show min (i + 1) 10 = 10 by omega]
      · dsimp only
        rw [kw_i64 (by omega) (by omega), show m + 1 + e = m + e + 1 by omega]; rfl
    · rw [hdc, Bool.false_and]
      refine bnd_eq (x := .inr (0, true)) ?_ rfl
      refine gd_eq ⟨by omega, by omega, fun _ => by omega, fun _ => by omega⟩ ?_
      exact bif_eq_t (by rw [nodig, hdc]; rfl) rfl
theorem value_w (K : Nat) (w : ByteArray) (most : Int) (ws : List ByteArray) (bad : Bool) (hw : w.size ≤ 100000) (hK : w.size + 1 ≤ K) : score_reader_value_2 K w most ws bad = some (match num w most with | some n => (n, bad) | none => (0, true)) := by
  have hl := vloop K w most ws bad hw w.size 0 (K - w.size - 1) (by omega) (by simp)
  rw [show w.size + (K - w.size - 1) + 1 = K by omega, List.drop_zero] at hl
  refine bnd_eq hl ?_
  by_cases hd : (bl w).all dig = true
  · rw [if_pos hd]
    dsimp only
    refine gd_eq (fun h => by
      simp only [Bool.and_eq_true, decide_eq_true_eq] at h; omega) ?_
    rw [beqs_nil]
    unfold num
    by_cases h1 : (1 ≤ w.size ∧ w.size ≤ 10 ∧ ¬ (1 < w.size ∧ sbyte w 0 = 48))
    · have ht : (bl w).take 10 = bl w := List.take_of_length_le (by rw [bl_len]; omega)
      rw [ht, decide_eq_false (p := w.size = 0) (by omega), decide_eq_false (p := (w.size : Int) > 10) (by omega)]
      have hq : (bif decide ((w.size : Int) > 1) then (sbyte w 0 == 48) else false) = false := by
        by_cases h2 : 1 < w.size
        · rw [decide_eq_true (by omega)]
          exact beq_eq_false_iff_ne.2 (fun h => h1.2.2 ⟨h2, h⟩)
        · rw [decide_eq_false (by omega)]; rfl
      rw [hq]
      by_cases h3 : val (bl w) ≤ most
      · rw [if_pos ⟨h1, hd, h3⟩]
        exact bif_eq_f (by rw [decide_eq_false (by omega)]; rfl) rfl
      · rw [if_neg (fun h => h3 h.2.2)]
        exact bif_eq_t (by rw [decide_eq_true (by omega)]; rfl) rfl
    · rw [if_neg (fun h => h1 h.1)]
      refine bif_eq_t ?_ rfl
      by_cases h2 : w.size = 0
      · rw [decide_eq_true h2]; rfl
      · rw [decide_eq_false h2]
        by_cases h3 : w.size ≤ 10
        · have h4 : 1 < w.size ∧ sbyte w 0 = 48 := by
            by_cases h4 : 1 < w.size ∧ sbyte w 0 = 48
            · exact h4
            · exact absurd ⟨by omega, h3, h4⟩ h1
          rw [decide_eq_false (p := (w.size : Int) > 10) (by omega), decide_eq_true (p := (w.size : Int) > 1) (by omega), h4.2]; rfl
        · rw [decide_eq_true (p := (w.size : Int) > 10) (by omega)]; rfl
  · rw [if_neg hd]
    unfold num
    rw [if_neg (fun h => hd h.2.1)]
theorem nth_drop {k : Kd} {l : List k.T} {i : Nat} {y : k.T} {t : List k.T} (h : l.drop i = y :: t) : k.nth l i = y := by
  have h1 : l[i]? = some y := by
    have : (l.drop i)[0]? = l[i]? := by rw [List.getElem?_drop, Nat.add_zero]
    rw [← this, h]; rfl
  unfold Kd.nth; rw [List.getD_eq_getElem?_getD, h1]; rfl
theorem drop_tail {α : Type} {l : List α} {i : Nat} {y : α} {t : List α} (h : l.drop i = y :: t) : l.drop (i + 1) = t := by
  rw [← List.drop_drop, h]; rfl
theorem drop_len {α : Type} {l t : List α} {i : Nat} {y : α} (h : l.drop i = y :: t) : i < l.length := by
  rcases Nat.lt_or_ge i l.length with h1 | h1
  · exact h1
  · rw [List.drop_of_length_le h1] at h; cases h
/-- numbers of words -/
def numw : List ByteArray → List Int → Option (List Int)
  | [], [] => some []
  | w :: ws, m :: ms => match num w m with
    | none => none
    | some n => (numw ws ms).map (n :: ·)
  | _, _ => none
theorem nums_len : ∀ {ws : List ByteArray} {ms l : List Int}, numw ws ms = some l → ws.length = ms.length ∧ l.length = ms.length
  | [], [], l, h => by simp only [numw, Option.some.injEq] at h; subst h; exact ⟨rfl, rfl⟩
  | [], _ :: _, _, h => by cases h
  | _ :: _, [], _, h => by cases h
  | w :: ws, m :: ms, l, h => by
    unfold numw at h
    split at h
    · cases h
    · rw [Option.map_eq_some_iff] at h
      obtain ⟨a, h1, rfl⟩ := h
      have := nums_len h1
      exact ⟨by rw [List.length_cons, List.length_cons, this.1], by rw [List.length_cons, List.length_cons, this.2]⟩
/-- the next number, as the program reads it -/
def rd (m : Int) : List ByteArray → Bool → Int × List ByteArray × Bool
  | [], _ => (0, [], true)
  | w :: t, bad => match num w m with
    | some n => (n, t, bad)
    | none => (0, t, true)
theorem rd_cons (m : Int) (w : ByteArray) (t : List ByteArray) (bad : Bool) : rd m (w :: t) bad = match num w m with | some n => (n, t, bad) | none => (0, t, true) := rfl
theorem num_nil (m : Int) : num ⟨#[]⟩ m = none := by unfold num; exact if_neg (fun h => absurd h.1.1 (by decide))
theorem word_w (K : Nat) (ws : List ByteArray) (bad : Bool) : score_reader_word_2 K ws bad = some (match ws with | [] => (⟨#[]⟩, [], true) | w :: t => (w, t, bad)) := by
  cases ws with
  | nil => rfl
  | cons w t =>
    unfold score_reader_word_2
    dsimp only
    refine bif_eq_f (beq_eq_false_iff_ne.2 (by rw [List.length_cons]; omega)) ?_
    refine gd_eq (by rw [List.length_cons]; omega) ?_
    refine gd_eq (by rw [List.length_cons]; omega) ?_
    rw [Int.toNat_natCast, List.take_of_length_le (Nat.le_refl _)]; rfl
theorem number_w (K : Nat) (m : Int) (ws : List ByteArray) (bad : Bool) (hw : ∀ w ∈ ws, w.size ≤ 100000 ∧ w.size + 1 ≤ K) (hK : 1 ≤ K) : score_reader_number_2 K m ws bad = some (rd m ws bad) := by
  refine bnd_eq (word_w K ws bad) ?_
  cases ws with
  | nil =>
    refine bnd_eq (value_w K ⟨#[]⟩ m [] true (by decide) hK) ?_
    rw [num_nil]; rfl
  | cons w t =>
    have := hw w (List.mem_cons_self ..)
    refine bnd_eq (value_w K w m t bad this.1 this.2) ?_
    rw [rd_cons]
    cases num w m with
    | none => rfl
    | some n => rfl
theorem rd_b {m : Int} (hm : 0 ≤ m) (ws : List ByteArray) (bad : Bool) : 0 ≤ (rd m ws bad).1 ∧ (rd m ws bad).1 ≤ m := by
  cases ws with
  | nil => exact ⟨Int.le_refl 0, hm⟩
  | cons w t =>
    rw [rd_cons]
    cases h : num w m with
    | none => exact ⟨Int.le_refl 0, hm⟩
    | some n => exact num_b h
theorem rd_sub (m : Int) (ws : List ByteArray) (bad : Bool) : ∀ w ∈ (rd m ws bad).2.1, w ∈ ws := by
  cases ws with
  | nil => exact fun w h => h
  | cons w t =>
    intro x hx
    rw [rd_cons] at hx
    cases h : num w m with
    | none => rw [h] at hx; exact List.mem_cons_of_mem _ hx
    | some n => rw [h] at hx; exact List.mem_cons_of_mem _ hx
/-- numbers one after another -/
def rdn : List Int → List ByteArray → Bool → List Int × List ByteArray × Bool
  | [], ws, bad => ([], ws, bad)
  | m :: ms, ws, bad => ((rd m ws bad).1 :: (rdn ms (rd m ws bad).2.1 (rd m ws bad).2.2).1, (rdn ms (rd m ws bad).2.1 (rd m ws bad).2.2).2)
theorem rd_bad (m : Int) (ws : List ByteArray) : (rd m ws true).2.2 = true := by
  cases ws with
  | nil => rfl
  | cons w t =>
    rw [rd_cons]
    cases num w m with
    | none => rfl
    | some n => rfl
theorem rdn_bad : ∀ (ms : List Int) (ws : List ByteArray), (rdn ms ws true).2.2 = true
  | [], _ => rfl
  | m :: ms, ws => by
    show (rdn ms (rd m ws true).2.1 (rd m ws true).2.2).2.2 = true
    rw [rd_bad]; exact rdn_bad ms _
theorem rdn_some : ∀ {ms : List Int} {ws : List ByteArray} {l : List Int} {bad : Bool}, numw ws ms = some l → rdn ms ws bad = (l, [], bad)
  | [], [], l, bad, h => by simp only [numw, Option.some.injEq] at h; subst h; rfl
  | _ :: _, [], _, _, h => by cases h
  | [], _ :: _, _, _, h => by cases h
  | m :: ms, w :: ws, l, bad, h => by
    unfold numw at h
    split at h
    · cases h
    · rename_i n hn
      rw [Option.map_eq_some_iff] at h
      obtain ⟨a, h1, rfl⟩ := h
      unfold rdn
      rw [rd_cons, hn]
      dsimp only
      rw [rdn_some h1]
theorem rdn_none : ∀ {ms : List Int} {ws : List ByteArray}, numw ws ms = none → (rdn ms ws false).2.2 = true ∨ (rdn ms ws false).2.1 ≠ []
  | [], [], h => by cases h
  | [], w :: t, h => .inr (by simp [rdn])
  | m :: ms, [], h => .inl (by
    show (rdn ms [] true).2.2 = true
    exact rdn_bad ms _)
  | m :: ms, w :: ws, h => by
    unfold numw at h
    split at h
    · rename_i hn
      left
      unfold rdn
      rw [rd_cons, hn]
      exact rdn_bad ms _
    · rename_i n hn
      rw [Option.map_eq_none_iff] at h
      have := rdn_none h
      unfold rdn
      rw [rd_cons, hn]
      exact this
theorem rdn_sub : ∀ (ms : List Int) (ws : List ByteArray) (bad : Bool), ∀ w ∈ (rdn ms ws bad).2.1, w ∈ ws
  | [], _, _, w, h => h
  | m :: ms, ws, bad, w, h => rd_sub m ws bad w (rdn_sub ms _ _ w h)
end Go.Fo
