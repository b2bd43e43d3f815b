/- The tables of a bank: what each question comes to. -/
import Derived.Test.YtphienllhdoenaaLoWv
import Derived.Test.YtphienllhdoenaaJ3
import Derived.KernelRfl
namespace Go.Fo
set_option maxRecDepth 6000

theorem clone_w (K : Nat) {l : List Int} (h0 : l ≠ []) (h1 : l.length ≤ 1000000) : slices_Clone_int16_int16 K l = some l := by
  refine gd_eq h0 ?_
  refine gd_eq (by simp; omega) ?_
  rfl
/-- the table of a place: what is told, and what the bank holds behind it -/
def told (t : List (Option (List Int))) (j : Nat) (l : List Int) (a b : Int) : List Int × List (Option (List Int)) × Int × Int :=
  match t[j]? with
  | some (some m) => (m, t, a, kwrap .i64 (b + 1))
  | _ => (l, t.take j ++ some l :: t.drop (j + 1), kwrap .i64 (a + 1), kwrap .i64 (b + 1))
theorem told_at {t : List (Option (List Int))} {j : Nat} {l : List Int} {a b : Int} (hj : j < t.length) (h : ∀ m, t[j]? = some (some m) → m = l) : (told t j l a b).1 = l ∧ ∀ (q : Nat) (m : List Int), (told t j l a b).2.1[q]? = some (some m) → (q = j ∧ m = l) ∨ t[q]? = some (some m) := by
  unfold told
  split
  · rename_i m hm
    exact ⟨h m hm, fun q m' hq => .inr hq⟩
  · refine ⟨rfl, fun q m' hq => ?_⟩
    simp only at hq
    have hl : (t.take j).length = j := by rw [List.length_take]; omega
    rcases Nat.lt_trichotomy q j with e | e | e
    · rw [List.getElem?_append_left (by omega), List.getElem?_take, if_pos e] at hq; exact .inr hq
    · subst e
      rw [List.getElem?_append_right (by omega), hl, Nat.sub_self] at hq
      simp at hq; exact .inl ⟨rfl, hq.symm⟩
    · rw [List.getElem?_append_right (by omega), hl, show q - j = (q - j - 1) + 1 by omega, List.getElem?_cons_succ, List.getElem?_drop] at hq
      rw [show j + 1 + (q - j - 1) = q by omega] at hq; exact .inr hq

theorem fill_a (K : Nat) (t0 t1 : List (Option (List Int))) (a b p q : Int) (f : Nat → Int) (n : Nat) (hn : n ≤ 100000) (hf : ∀ k : Nat, k < n → bank_Bank_Turn_1 K (k : Int) q = some (f k)) :
    ∀ (m k e : Nat), k + m = n → bank_Bank_tell_1_2.l0 K (n : Int) t0 t1 a b p q (m + e + 1) (k : Int) (tabOf f k ++ List.replicate m 0) = some (tabOf f n)
  | 0, k, e, h => by
    have hk : k = n := by omega
    subst hk
    show bank_Bank_tell_1_2.r0 K (k : Int) t0 t1 a b p q (bank_Bank_tell_1_2.l0 K (k : Int) t0 t1 a b p q (0 + e)) (k : Int) (tabOf f k ++ List.replicate 0 0) = _
    refine bif_eq_f (decide_eq_false (by omega)) ?_
    rw [List.replicate_zero, List.append_nil]
  | m + 1, k, e, h => by
    show bank_Bank_tell_1_2.r0 K (n : Int) t0 t1 a b p q (bank_Bank_tell_1_2.l0 K (n : Int) t0 t1 a b p q (m + 1 + e)) (k : Int) (tabOf f k ++ List.replicate (m + 1) 0) = _
    refine bif_eq_t (decide_eq_true (by omega)) ?_
    refine bnd_eq (hf k (by omega)) ?_
    have hl := fill_len f k (m + 1) (0 : Int)
    refine gd_eq (by rw [hl]; omega) ?_
    dsimp only
    refine gd_eq (by rw [hl]; omega) ?_
    rw [Int.toNat_natCast, set_fill, kw_i64 (by omega) (by omega), show m + 1 + e = m + e + 1 by omega]
    exact fill_a K t0 t1 a b p q f n hn hf m (k + 1) e (by omega)
theorem make_a (K : Nat) (t0 t1 : List (Option (List Int))) (a b q : Int) (f : Nat → Int) (n : Nat) (hn : n ≤ 100000) (hK : n + 1 ≤ K) (hf : ∀ k : Nat, k < n → bank_Bank_Turn_1 K (k : Int) q = some (f k)) (hl : t0.length + t1.length = 387) :
    bank_Bank_tell_1_2 K t0 t1 a b (n : Int) q = some (tabOf f n, kwrap .i64 (a + 1)) := by
  refine gd_eq (by omega) ?_
  obtain ⟨e, rfl⟩ : ∃ e, K = n + e + 1 := ⟨K - n - 1, by omega⟩
  refine bnd_eq (x := tabOf f n) ?_ ?_
  · rw [Int.toNat_natCast, List.length_replicate]
    exact fill_a _ t0 t1 a b (n : Int) q f n hn hf n 0 e (by omega)
  · refine bnd_eq (x := kwrap .i64 (a + 1)) (gd_eq hl rfl) rfl
theorem tell_a (K : Nat) (t : List (Option (List Int))) (a b q : Int) (o j : Nat) (f : Nat → Int) (n : Nat) (h1 : 1 ≤ n) (hn : n ≤ 100000) (hK : n + 1 ≤ K) (hf : ∀ k : Nat, k < n → bank_Bank_Turn_1 K (k : Int) q = some (f k)) (hl : t.length = 388) (ho : o = j * 4) (hj : j < 388)
    (hm : ∀ m, t[j]? = some (some m) → m = tabOf f n) : bank_Bank_tell_6 K o (n : Int) t a b q = some (told t j (tabOf f n) a b) := by
  have hd : o / 4 = j := by omega
  have hne : tabOf f n ≠ [] := fun e => by
    have := congrArg List.length e
    rw [tabOf_len] at this; simp at this; omega
  unfold bank_Bank_tell_6
  rw [hd]
  refine gd_eq ⟨hl, ho, hj⟩ ?_
  have hlen : (t.take j).length + (t.drop (j + 1)).length = 387 := by rw [List.length_take, List.length_drop]; omega
  obtain ⟨x, hx⟩ : ∃ x, t[j]? = some x := ⟨_, List.getElem?_eq_getElem (by omega)⟩
  unfold told
  rw [hx]
  cases x with
  | none =>
    dsimp only
    have : bank_Bank_tell_4 K (t.take j) (t.drop (j + 1)) (n : Int) a b q = some (tabOf f n, tabOf f n, kwrap .i64 (a + 1), kwrap .i64 (b + 1)) := by
      refine bnd_eq (x := (tabOf f n, kwrap .i64 (a + 1))) ?_ ?_
      · refine bnd_eq (x := ()) rfl ?_
        refine bnd_eq (x := (tabOf f n, kwrap .i64 (a + 1))) ?_ rfl
        exact make_a K _ _ a b q f n hn hK hf hlen
      refine bnd_eq (x := kwrap .i64 (b + 1)) (gd_eq hlen rfl) ?_
      exact bnd_eq (clone_w K hne (by rw [tabOf_len]; omega)) rfl
    rw [this]; rfl
  | some m =>
    dsimp only
    have e := hm m hx
    subst e
    have : bank_Bank_tell_5 K (t.take j) (t.drop (j + 1)) (tabOf f n) (n : Int) a b q = some (tabOf f n, kwrap .i64 (b + 1)) := by
      refine bnd_eq (x := ()) rfl ?_
      refine bnd_eq (x := kwrap .i64 (b + 1)) (gd_eq hlen rfl) ?_
      exact bnd_eq (clone_w K hne (by rw [tabOf_len]; omega)) rfl
    rw [this]; rfl

theorem fill_b (K : Nat) (t0 t1 : List (Option (List Int))) (a b p q : Int) (f : Nat → Int) (n : Nat) (hn : n ≤ 100000) (hf : ∀ k : Nat, k < n → bank_Bank_Slope_1 K (k : Int) q = some (f k)) :
    ∀ (m k e : Nat), k + m = n → bank_Bank_tell_1.l0 K (n : Int) t0 t1 a b p q (m + e + 1) (k : Int) (tabOf f k ++ List.replicate m 0) = some (tabOf f n)
  | 0, k, e, h => by
    have hk : k = n := by omega
    subst hk
    show bank_Bank_tell_1.r0 K (k : Int) t0 t1 a b p q (bank_Bank_tell_1.l0 K (k : Int) t0 t1 a b p q (0 + e)) (k : Int) (tabOf f k ++ List.replicate 0 0) = _
    refine bif_eq_f (decide_eq_false (by omega)) ?_
    rw [List.replicate_zero, List.append_nil]
  | m + 1, k, e, h => by
    show bank_Bank_tell_1.r0 K (n : Int) t0 t1 a b p q (bank_Bank_tell_1.l0 K (n : Int) t0 t1 a b p q (m + 1 + e)) (k : Int) (tabOf f k ++ List.replicate (m + 1) 0) = _
    refine bif_eq_t (decide_eq_true (by omega)) ?_
    refine bnd_eq (hf k (by omega)) ?_
    have hl := fill_len f k (m + 1) (0 : Int)
    refine gd_eq (by rw [hl]; omega) ?_
    dsimp only
    refine gd_eq (by rw [hl]; omega) ?_
    rw [Int.toNat_natCast, set_fill, kw_i64 (by omega) (by omega), show m + 1 + e = m + e + 1 by omega]
    exact fill_b K t0 t1 a b p q f n hn hf m (k + 1) e (by omega)
theorem make_b (K : Nat) (t0 t1 : List (Option (List Int))) (a b q : Int) (f : Nat → Int) (n : Nat) (hn : n ≤ 100000) (hK : n + 1 ≤ K) (hf : ∀ k : Nat, k < n → bank_Bank_Slope_1 K (k : Int) q = some (f k)) (hl : t0.length + t1.length = 387) :
    bank_Bank_tell_1 K t0 t1 a b (n : Int) q = some (tabOf f n, kwrap .i64 (a + 1)) := by
  refine gd_eq (by omega) ?_
  obtain ⟨e, rfl⟩ : ∃ e, K = n + e + 1 := ⟨K - n - 1, by omega⟩
  refine bnd_eq (x := tabOf f n) ?_ ?_
  · rw [Int.toNat_natCast, List.length_replicate]
    exact fill_b _ t0 t1 a b (n : Int) q f n hn hf n 0 e (by omega)
  · refine bnd_eq (x := kwrap .i64 (a + 1)) (gd_eq hl rfl) rfl
theorem tell_b (K : Nat) (t : List (Option (List Int))) (a b q : Int) (o j : Nat) (f : Nat → Int) (n : Nat) (h1 : 1 ≤ n) (hn : n ≤ 100000) (hK : n + 1 ≤ K) (hf : ∀ k : Nat, k < n → bank_Bank_Slope_1 K (k : Int) q = some (f k)) (hl : t.length = 388) (ho : o = j * 4) (hj : j < 388)
    (hm : ∀ m, t[j]? = some (some m) → m = tabOf f n) : bank_Bank_tell_3 K o (n : Int) t a b q = some (told t j (tabOf f n) a b) := by
  have hd : o / 4 = j := by omega
  have hne : tabOf f n ≠ [] := fun e => by
    have := congrArg List.length e
    rw [tabOf_len] at this; simp at this; omega
  unfold bank_Bank_tell_3
  rw [hd]
  refine gd_eq ⟨hl, ho, hj⟩ ?_
  have hlen : (t.take j).length + (t.drop (j + 1)).length = 387 := by rw [List.length_take, List.length_drop]; omega
  obtain ⟨x, hx⟩ : ∃ x, t[j]? = some x := ⟨_, List.getElem?_eq_getElem (by omega)⟩
  unfold told
  rw [hx]
  cases x with
  | none =>
    dsimp only
    have : bank_Bank_tell K (t.take j) (t.drop (j + 1)) (n : Int) a b q = some (tabOf f n, tabOf f n, kwrap .i64 (a + 1), kwrap .i64 (b + 1)) := by
      refine bnd_eq (x := (tabOf f n, kwrap .i64 (a + 1))) ?_ ?_
      · refine bnd_eq (x := ()) rfl ?_
        refine bnd_eq (x := (tabOf f n, kwrap .i64 (a + 1))) ?_ rfl
        exact make_b K _ _ a b q f n hn hK hf hlen
      refine bnd_eq (x := kwrap .i64 (b + 1)) (gd_eq hlen rfl) ?_
      exact bnd_eq (clone_w K hne (by rw [tabOf_len]; omega)) rfl
    rw [this]; rfl
  | some m =>
    dsimp only
    have e := hm m hx
    subst e
    have : bank_Bank_tell_2 K (t.take j) (t.drop (j + 1)) (tabOf f n) (n : Int) a b q = some (tabOf f n, kwrap .i64 (b + 1)) := by
      refine bnd_eq (x := ()) rfl ?_
      refine bnd_eq (x := kwrap .i64 (b + 1)) (gd_eq hlen rfl) ?_
      exact bnd_eq (clone_w K hne (by rw [tabOf_len]; omega)) rfl
    rw [this]; rfl

/-- the numbers of the three -/
def turnF (n : Int) (k : Nat) : Int := cosv (k : Int) n
def slopeF (n : Int) (k : Nat) : Int := sinv (2 * (k : Int) + 1) (8 * n)
theorem num_a (K : Nat) (hK : 5 ≤ K) {n : Int} (h1 : 1 ≤ n) (h2 : n ≤ 1024) (k : Nat) : bank_Bank_Turn_1 K (k : Int) n = some (turnF n k) := bnd_eq (wcos_w K hK h1 (by omega)) rfl
theorem num_b (K : Nat) (hK : 5 ≤ K) {n : Int} (h1 : 1 ≤ n) (h2 : n ≤ 128) (k : Nat) (hk : (k : Int) < n) : bank_Bank_Slope_1 K (k : Int) n = some (slopeF n k) := by
  unfold bank_Bank_Slope_1
  rw [kw_i64 (x := 2 * (k : Int)) (by omega) (by omega)]
  dsimp only
  rw [kw_i64 (x := 2 * (k : Int) + 1) (by omega) (by omega), kw_i64 (x := 8 * n) (by omega) (by omega)]
  exact bnd_eq (wsin_w K hK (by omega) (by omega)) rfl
def mayTurn (n : Int) : Bool := decide (4 ≤ n) && decide (n ≤ 1024) && n % 4 == 0
def maySlope (n : Int) : Bool := decide (1 ≤ n) && decide (n ≤ 128)
theorem turn_w (K : Nat) (hK : 1100 ≤ K) (n : Int) (t : List (Option (List Int))) (a b : Int) (hl : t.length = 388) (hm : ∀ m, t[(n / 4).toNat]? = some (some m) → m = tabOf (turnF n) n.toNat) :
    bank_Bank_Turn K n t a b = if mayTurn n = true then some (.inr (told t (n / 4).toNat (tabOf (turnF n) n.toNat) a b)) else some (.inl ()) := by
  unfold bank_Bank_Turn
  have hv : (bif (bif decide (n ≥ 4) then decide (n ≤ 1024) else false) then (Int.tmod n 4 == 0) else false) = mayTurn n := by
    unfold mayTurn
    by_cases h4 : 4 ≤ n
    · rw [Int.tmod_eq_emod_of_nonneg (by omega)]
      cases hd : decide (n ≤ 1024) <;> simp [h4]
    · simp [h4]
  dsimp only
  rw [hv]
  cases h : mayTurn n with
  | false => rfl
  | true =>
    unfold mayTurn at h
    simp only [Bool.and_eq_true, decide_eq_true_eq, beq_iff_eq] at h
    rw [if_pos rfl]
    refine bnd_eq (x := .inr ()) rfl ?_
    have e : kwrap .i64 (Int.tdiv n 4) = n / 4 := by rw [Int.tdiv_eq_ediv_of_nonneg (by omega), kw_i64 (by omega) (by omega)]
    rw [e]
    refine gd_eq (by omega) ?_
    have ht := tell_a K t a b n (0 + (n / 4).toNat * 4) (n / 4).toNat (turnF n) n.toNat (by omega) (by omega) (by omega) (fun k hk => num_a K (by omega) (by omega) (by omega) k) hl (by omega) (by omega) hm
    rw [show ((n.toNat : Nat) : Int) = n by omega] at ht
    exact bnd_eq ht rfl
theorem slope_w (K : Nat) (hK : 1100 ≤ K) (n : Int) (t : List (Option (List Int))) (a b : Int) (hl : t.length = 388) (hm : ∀ m, t[257 + n.toNat]? = some (some m) → m = tabOf (slopeF n) n.toNat) :
    bank_Bank_Slope K n t a b = if maySlope n = true then some (.inr (told t (257 + n.toNat) (tabOf (slopeF n) n.toNat) a b)) else some (.inl ()) := by
  unfold bank_Bank_Slope
  have hv : (bif decide (n ≥ 1) then decide (n ≤ 128) else false) = maySlope n := by
    unfold maySlope
    by_cases h4 : 1 ≤ n
    · simp [h4]
    · simp [h4]
  dsimp only
  rw [hv]
  cases h : maySlope n with
  | false => rfl
  | true =>
    unfold maySlope at h
    simp only [Bool.and_eq_true, decide_eq_true_eq] at h
    rw [if_pos rfl]
    refine bnd_eq (x := .inr ()) rfl ?_
    refine gd_eq (by omega) ?_
    have ht := tell_b K t a b n (1028 + n.toNat * 4) (257 + n.toNat) (slopeF n) n.toNat (by omega) (by omega) (by omega) (fun k hk => num_b K (by omega) (by omega) (by omega) k (by omega)) hl (by omega) (by omega) hm
    rw [show ((n.toNat : Nat) : Int) = n by omega] at ht
    exact bnd_eq ht rfl

end Go.Fo
