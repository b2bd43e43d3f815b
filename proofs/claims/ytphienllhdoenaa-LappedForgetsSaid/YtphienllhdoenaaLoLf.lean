/- What is told hangs on the last two calls alone: the plain fact. -/
import Derived.Test.YtphienllhdoenaaLoUe
namespace Go.Fo
set_option maxRecDepth 6000
theorem alive9_w : psalterylaw09_alive 1100 = some true := by kernel_rfl
theorem length_w {p : Int} (h0 : 0 ≤ p) (h1 : p < 256) : ∃ n : Nat, NN n ∧ psalterylaw09_length 1100 p = some (n : Int) := by
  have e : kwrap .i64 p = p := kw_i64 (by omega) (by omega)
  have e2 : Int.tmod p 4 = p % 4 := Int.tmod_eq_emod_of_nonneg h0
  have hq : p % 4 = 0 ∨ p % 4 = 1 ∨ p % 4 = 2 ∨ p % 4 = 3 := by omega
  have : ∀ q : Int, (q = 0 ∨ q = 1 ∨ q = 2 ∨ q = 3) → ∃ n : Nat, NN n ∧ (gd ((0 : Int) ≤ q ∧ q < (([40, 60, 80, 120] : List Int).length : Int)) <| some (Kd.nth (.int .i64) [40, 60, 80, 120] (Int.toNat q)) : Option Int) = some (n : Int) := by
    intro q hq
    rcases hq with rfl | rfl | rfl | rfl
    · exact ⟨40, by unfold NN; omega, rfl⟩
    · exact ⟨60, by unfold NN; omega, rfl⟩
    · exact ⟨80, by unfold NN; omega, rfl⟩
    · exact ⟨120, by unfold NN; omega, rfl⟩
  obtain ⟨n, hn, hr⟩ := this _ hq
  refine ⟨n, hn, ?_⟩
  refine bnd_eq (x := [40, 60, 80, 120]) rfl ?_
  rw [e, e2]
  exact hr
theorem padded_w {n : Nat} (hn : NN n) (l : List Int) {a : Nat} (ha : a ≤ 1000) (hl : l.length ≤ 1000) : ∃ x, x.length = n ∧ psalterylaw09_padded 1100 l (a : Int) (n : Int) = some x := by
  obtain ⟨h1, h2⟩ := hn.b
  have go : ∀ (m i e : Nat) (x : List Int), i + m = n → x.length = n → ∃ y, y.length = n ∧ psalterylaw09_padded.l0 1100 l (a : Int) (n : Int) (m + e + 1) (i : Int) x = some y := by
    intro m
    induction m with
    | zero =>
      intro i e x hi hx
      refine ⟨x, hx, ?_⟩
      show psalterylaw09_padded.r0 1100 l (a : Int) (n : Int) (psalterylaw09_padded.l0 1100 l (a : Int) (n : Int) (0 + e)) (i : Int) x = _
      refine bif_eq_f ?_ rfl
      rw [decide_eq_false (by omega)]; rfl
    | succ m ih =>
      intro i e x hi hx
      have ek : kwrap .i64 ((a : Int) + (i : Int)) = (a : Int) + (i : Int) := kw_i64 (by omega) (by omega)
      show ∃ y, y.length = n ∧ psalterylaw09_padded.r0 1100 l (a : Int) (n : Int) (psalterylaw09_padded.l0 1100 l (a : Int) (n : Int) (m + 1 + e)) (i : Int) x = some y
      unfold psalterylaw09_padded.r0
      rw [ek]
      by_cases hc : (a : Int) + (i : Int) < (l.length : Int)
      · obtain ⟨y, hy, hr⟩ := ih (i + 1) e (List.set x i (Kd.nth (.int .i16) l (Int.toNat ((a : Int) + (i : Int))))) (by omega) (by rw [List.length_set]; exact hx)
        refine ⟨y, hy, ?_⟩
        refine bif_eq_t (by rw [decide_eq_true (show (i : Int) < (n : Int) by omega), decide_eq_true hc]; rfl) ?_
        refine gd_eq (by rw [hx]; omega) ?_
        rw [kw_i64 (x := (i : Int) + 1) (by omega) (by omega), Int.toNat_natCast, show m + 1 + e = m + e + 1 by omega]
        exact hr
      · refine ⟨x, hx, ?_⟩
        refine bif_eq_f ?_ rfl
        rw [decide_eq_false hc]
        cases decide ((i : Int) < (n : Int)) <;> rfl
  obtain ⟨y, hy, hr⟩ := go n 0 (1100 - n - 1) (List.replicate n 0) (by omega) List.length_replicate
  rw [show n + (1100 - n - 1) + 1 = 1100 by omega] at hr
  refine ⟨y, hy, ?_⟩
  refine gd_eq (by omega) ?_
  rw [Int.toNat_natCast]
  exact bnd_eq hr rfl
theorem same32_w {l : List Int} (hl : l.length ≤ 1000) : psalteryref08_Same32 1100 l l = some true := by
  refine bif_eq_f (by simp) ?_
  refine bnd_eq (x := .inl ()) ?_ rfl
  refine cnt_loop0 (r := psalteryref08_Same32.r0 1100 l l) l.length (some (.inl ())) (fun next k hk => ?_) (fun next => ?_) (by omega)
  · refine bif_eq_t (decide_eq_true (by omega)) ?_
    refine gd_eq (by omega) ?_
    refine gd_eq (by omega) ?_
    refine bif_eq_f (by simp) ?_
    show next _ = _
    rw [kw_i64 (by omega) (by omega)]; rfl
  · exact bif_eq_f (decide_eq_false (by omega)) rfl

theorem told_len {t : List (Option (List Int))} {j : Nat} (l : List Int) (a b : Int) (hj : j < t.length) : (told t j l a b).2.1.length = t.length := by
  unfold told
  split
  · rfl
  · simp only [List.length_append, List.length_take, List.length_cons, List.length_drop]; omega
/-- the slope's table -/
def slp (n : Nat) : List Int := tabOf (slopeF ((n / 2 : Nat) : Int)) (n / 2)
/-- a bank, of which the two tables of a length are either not made or right -/
structure Bt (n : Nat) (t : List (Option (List Int))) : Prop where
  len : t.length = 388
  s : ∀ m, t[257 + n / 2]? = some (some m) → m = slp n
  u : ∀ m, t[2 * n]? = some (some m) → m = trn n
theorem Bt.told {n j : Nat} {t : List (Option (List Int))} (H : Bt n t) (hn : NN n) (a b : Int) (hj : j = 257 + n / 2 ∧ True ∨ j = 2 * n ∧ True) : ∀ l, (j = 257 + n / 2 ∧ l = slp n ∨ j = 2 * n ∧ l = trn n) → Bt n (told t j l a b).2.1 ∧ (Go.Fo.told t j l a b).1 = l := by
  intro l hl
  obtain ⟨h1, h2⟩ := hn.b
  have hjl : j < t.length := by rw [H.len]; omega
  have hm : ∀ m, t[j]? = some (some m) → m = l := by
    intro m hm
    rcases hl with ⟨rfl, rfl⟩ | ⟨rfl, rfl⟩
    · exact H.s m hm
    · exact H.u m hm
  have hat := told_at (a := a) (b := b) hjl hm
  refine ⟨⟨(told_len l a b hjl).trans H.len, fun m hq => ?_, fun m hq => ?_⟩, hat.1⟩
  · rcases hat.2 _ m hq with ⟨e, f⟩ | e
    · rcases hl with ⟨e2, f2⟩ | ⟨e2, f2⟩
      · exact f.trans f2
      · unfold NN at hn; omega
    · exact H.s m e
  · rcases hat.2 _ m hq with ⟨e, f⟩ | e
    · rcases hl with ⟨e2, f2⟩ | ⟨e2, f2⟩
      · unfold NN at hn; omega
      · exact f.trans f2
    · exact H.u m e
theorem slopeB_w {n : Nat} (hn : NN n) {t : List (Option (List Int))} (H : Bt n t) (a b : Int) : bank_Bank_Slope 1100 (kwrap .i64 (Int.tdiv (n : Int) 2)) t a b = some (.inr (told t (257 + n / 2) (slp n) a b)) := by
  obtain ⟨h1, h2⟩ := hn.b
  have e : kwrap .i64 (Int.tdiv (n : Int) 2) = ((n / 2 : Nat) : Int) := by rw [Int.tdiv_eq_ediv_of_nonneg (by omega), kw_i64 (by omega) (by omega)]; omega
  rw [e]
  have hm : maySlope ((n / 2 : Nat) : Int) = true := by unfold maySlope; rw [decide_eq_true (by omega), decide_eq_true (by omega)]; rfl
  have := slope_w 1100 (by decide) ((n / 2 : Nat) : Int) t a b H.len (fun m h => by rw [Int.toNat_natCast] at h ⊢; exact H.s m h)
  rw [hm, if_pos rfl, Int.toNat_natCast] at this
  exact this
theorem turnB_w {n : Nat} (hn : NN n) {t : List (Option (List Int))} (H : Bt n t) (a b : Int) : bank_Bank_Turn 1100 (kwrap .i64 (8 * (n : Int))) t a b = some (.inr (told t (2 * n) (trn n) a b)) := by
  obtain ⟨h1, h2⟩ := hn.b
  have e2 : (8 * (n : Int) / 4).toNat = 2 * n := by omega
  have e3 : (8 * (n : Int)).toNat = 8 * n := by omega
  rw [kw_i64 (x := 8 * (n : Int)) (by omega) (by omega)]
  have hm : mayTurn (8 * (n : Int)) = true := by rcases hn with rfl | rfl | rfl | rfl <;> rfl
  have := turn_w 1100 (by decide) (8 * (n : Int)) t a b H.len (fun m h => by rw [e2] at h; rw [e3]; exact H.u m h)
  rw [hm, if_pos rfl, e2, e3] at this
  exact this
theorem has_w {n : Nat} (hn : NN n) : slices_Contains_int_int 1100 [40, 60, 80, 120] (n : Int) = some true := by
  rcases hn with rfl | rfl | rfl | rfl <;> rfl
theorem Bt.new (n : Nat) : Bt n (List.replicate 388 none) := ⟨List.length_replicate, fun m h => by
  rw [List.getElem?_replicate] at h
  split at h <;> simp at h, fun m h => by
  rw [List.getElem?_replicate] at h
  split at h <;> simp at h⟩
theorem win_any {n : Nat} (hn : NN n) {w : List Int} {t0 t1 : List (Option (List Int))} {a0 b0 a1 b1 : Int} (H0 : Bt n t0) (hw : lapped_Window 1100 (n : Int) t0 a0 b0 = some (.inr (w, t1, a1, b1))) {t : List (Option (List Int))} (H : Bt n t) (a b : Int) :
    lapped_Window 1100 (n : Int) t a b = some (.inr (w, (told t (257 + n / 2) (slp n) a b).2)) := by
  unfold lapped_Window at hw ⊢
  obtain ⟨_, _, hw⟩ := bnd hw
  dsimp only at hw
  obtain ⟨c, hc, hw⟩ := bnd hw
  obtain rfl : c = true := Option.some.inj (hc.symm.trans (has_w hn))
  replace hw := bif_f hw rfl
  obtain ⟨z, hz, hw⟩ := bnd hw
  have hz2 := hz.symm.trans (slopeB_w hn H0 a0 b0)
  obtain rfl := Option.some.inj hz2
  have h1 := (H0.told hn a0 b0 (.inl ⟨rfl, trivial⟩) (slp n) (.inl ⟨rfl, rfl⟩)).2
  generalize told t0 (257 + n / 2) (slp n) a0 b0 = p at hw h1
  obtain ⟨p0, p1, p2, p3⟩ := p
  dsimp only at h1
  subst h1
  dsimp only at hw
  obtain ⟨g1, hw⟩ := gd_t hw
  obtain ⟨g2, hw⟩ := gd_t hw
  obtain ⟨r1, h3, hw⟩ := bnd hw
  obtain ⟨g3, hw⟩ := gd_t hw
  obtain ⟨r2, h4, hw⟩ := bnd hw
  obtain ⟨r3, h5, hw⟩ := bnd hw
  obtain ⟨g4, hw⟩ := gd_t hw
  simp only [Option.some.injEq, Sum.inr.injEq, Prod.mk.injEq] at hw
  obtain ⟨rfl, _⟩ := hw
  refine bnd_eq (x := ()) rfl ?_
  refine bnd_eq (has_w hn) ?_
  refine bif_eq_f rfl ?_
  refine bnd_eq (slopeB_w hn H a b) ?_
  have h1' := (H.told hn a b (.inl ⟨rfl, trivial⟩) (slp n) (.inl ⟨rfl, rfl⟩)).2
  generalize told t (257 + n / 2) (slp n) a b = q at h1'
  obtain ⟨q0, q1, q2, q3⟩ := q
  dsimp only at h1'
  subst h1'
  dsimp only
  refine gd_eq g1 ?_
  refine gd_eq g2 ?_
  refine bnd_eq h3 ?_
  refine gd_eq g3 ?_
  refine bnd_eq h4 ?_
  refine bnd_eq h5 ?_
  exact gd_eq g4 rfl
theorem of_any {n : Nat} (hn : NN n) {w : List Int} {t0 t1 : List (Option (List Int))} {a0 b0 a1 b1 : Int} (H0 : Bt n t0) (hw : lapped_Window 1100 (n : Int) t0 a0 b0 = some (.inr (w, t1, a1, b1))) {t : List (Option (List Int))} (H : Bt n t) (a b : Int) :
    ∃ t' a' b', Bt n t' ∧ lapped_of 1100 (n : Int) t a b = some (.inr (.inr (w, trn n, t', a', b'))) := by
  have h1 := (H.told hn a b (.inl ⟨rfl, trivial⟩) (slp n) (.inl ⟨rfl, rfl⟩)).1
  have hW := win_any hn H0 hw H a b
  generalize told t (257 + n / 2) (slp n) a b = q at h1 hW
  obtain ⟨q0, q1, q2, q3⟩ := q
  dsimp only at h1 hW
  have h2 := h1.told hn q2 q3 (.inr ⟨rfl, trivial⟩) (trn n) (.inr ⟨rfl, rfl⟩)
  have hT := turnB_w hn h1 q2 q3
  generalize told q1 (2 * n) (trn n) q2 q3 = p at h2 hT
  obtain ⟨p0, p1, p2, p3⟩ := p
  dsimp only at h2
  obtain ⟨h3, rfl⟩ := h2
  exact ⟨p1, p2, p3, h3, bnd_eq hW (bnd_eq hT rfl)⟩
theorem lap_any {n : Nat} (hn : NN n) {w : List Int} {t0 t1 : List (Option (List Int))} {a0 b0 a1 b1 : Int} (H0 : Bt n t0) (hw : lapped_Window 1100 (n : Int) t0 a0 b0 = some (.inr (w, t1, a1, b1))) {t : List (Option (List Int))} (H : Bt n t) (a b : Int) :
    ∃ t' a' b', Bt n t' ∧ lapped_NewLapper 1100 (n : Int) t a b = some (.inr (t', a', b', w, trn n, List.replicate n 0)) := by
  obtain ⟨h1, h2⟩ := hn.b
  obtain ⟨t', a', b', h3, h4⟩ := of_any hn H0 hw H a b
  refine ⟨t', a', b', h3, bnd_eq h4 ?_⟩
  refine gd_eq (by omega) ?_
  rw [Int.toNat_natCast]
theorem unl_any {n : Nat} (hn : NN n) {w : List Int} {t0 t1 : List (Option (List Int))} {a0 b0 a1 b1 : Int} (H0 : Bt n t0) (hw : lapped_Window 1100 (n : Int) t0 a0 b0 = some (.inr (w, t1, a1, b1))) {t : List (Option (List Int))} (H : Bt n t) (a b : Int) :
    ∃ t' a' b', Bt n t' ∧ lapped_NewUnlapper 1100 (n : Int) t a b = some (.inr (t', a', b', w, trn n, List.replicate n 0)) := by
  obtain ⟨h1, h2⟩ := hn.b
  obtain ⟨t', a', b', h3, h4⟩ := of_any hn H0 hw H a b
  refine ⟨t', a', b', h3, bnd_eq h4 ?_⟩
  refine gd_eq (by omega) ?_
  rw [Int.toNat_natCast]
/-- of nothing comes nothing -/
theorem sum0 (n j : Nat) : ∀ q, accf (fun k z => kwrap .i64 (z + kwrap .i64 (kwrap .i64 ((List.replicate n (0 : Int)).getD k 0) * cv n j k))) 0 q = 0
  | 0 => rfl
  | q + 1 => by
    show kwrap .i64 (accf _ 0 q + kwrap .i64 (kwrap .i64 ((List.replicate n (0 : Int)).getD q 0) * cv n j q)) = 0
    have e : (List.replicate n (0 : Int)).getD q 0 = 0 := by
      rw [List.getD_eq_getElem?_getD, List.getElem?_replicate]; split <;> rfl
    rw [sum0 n j q, e, show kwrap .i64 0 = 0 from rfl, Int.zero_mul]
    rfl
theorem smp0 {n : Nat} (hn : NN n) (w : List Int) (j : Nat) : smp n w (List.replicate n 0) j = 0 := by
  have e : sumu n (List.replicate n 0) j = 0 := sum0 n j n
  have e2 : ynum n (List.replicate n 0) j / (n : Int) = 0 := by
    unfold ynum
    rw [e]
    rcases hn with rfl | rfl | rfl | rfl <;> decide
  unfold smp
  rw [e2, show sat32v 0 = 0 from rfl, Int.zero_mul]
  decide
theorem past_w {n : Nat} (hn : NN n) {w : List Int} (hw : w.length = 2 * n) (l : List Int) (hl : l.length ≤ 300) (c1 : List Int) (c2 : Bool) (c6 c7 c10 c11 c12 c13 : List Int) :
    ∀ (m a e : Nat) (o : List Int) (ov : Nat → Int), l.length ≤ a + m → a ≤ 700 → o.length = n →
    ∃ o' ov', o'.length = n ∧ psalterylaw09_LappedForgets.l1 1100 l c1 c2 (n : Int) w (trn n) c6 c7 w (trn n) c10 c11 c12 c13 (m + e + 1) (a : Int) o (tabOf ov n) = some (o', tabOf ov' n)
  | 0, a, e, o, ov, h, _, ho => ⟨o, ov, ho, by
    show psalterylaw09_LappedForgets.r1 1100 l c1 c2 (n : Int) w (trn n) c6 c7 w (trn n) c10 c11 c12 c13 (psalterylaw09_LappedForgets.l1 1100 l c1 c2 (n : Int) w (trn n) c6 c7 w (trn n) c10 c11 c12 c13 (0 + e)) (a : Int) o (tabOf ov n) = _
    exact bif_eq_f (decide_eq_false (by omega)) rfl⟩
  | m + 1, a, e, o, ov, h, ha, ho => by
    obtain ⟨h1, h2⟩ := hn.b
    show ∃ o' ov', o'.length = n ∧ psalterylaw09_LappedForgets.r1 1100 l c1 c2 (n : Int) w (trn n) c6 c7 w (trn n) c10 c11 c12 c13 (psalterylaw09_LappedForgets.l1 1100 l c1 c2 (n : Int) w (trn n) c6 c7 w (trn n) c10 c11 c12 c13 (m + 1 + e)) (a : Int) o (tabOf ov n) = some (o', tabOf ov' n)
    by_cases hc : a < l.length
    · obtain ⟨x, hx, hp⟩ := padded_w hn l (a := a) (by omega) (by omega)
      obtain ⟨o', ov', ho', hr⟩ := past_w hn hw l hl c1 c2 c6 c7 c10 c11 c12 c13 m (a + n) e x (fun j => smp n w (tabOf (outv n w (o ++ x)) n) (n + j)) (by omega) (by omega) hx
      refine ⟨o', ov', ho', ?_⟩
      refine bif_eq_t (decide_eq_true (by omega)) ?_
      refine bnd_eq (x := (x, tabOf (fun j => smp n w (tabOf (outv n w (o ++ x)) n) (n + j)) n)) ?_ ?_
      · refine bnd_eq hp ?_
        refine bnd_eq (feed_w 1100 hn (by decide) hx ho hw) ?_
        exact bnd_eq (unfeed_w 1100 hn (by decide) ov (tabOf_len _ _) hw) rfl
      · dsimp only
        rw [kw_i64 (x := (a : Int) + (n : Int)) (by omega) (by omega), show (a : Int) + (n : Int) = ((a + n : Nat) : Int) by omega, show m + 1 + e = m + e + 1 by omega]
        exact hr
    · exact ⟨o, ov, ho, bif_eq_f (decide_eq_false (by omega)) rfl⟩
theorem same_loop {n : Nat} (hn : NN n) {w : List Int} (hw : w.length = 2 * n) (c0 l : List Int) (hl : l.length ≤ 300) :
    ∀ (m a e : Nat) (o : List Int) (ov : Nat → Int), l.length ≤ a + m → a ≤ 700 → o.length = n →
    psalterylaw09_LappedForgets.l0 1100 c0 l (n : Int) w (trn n) w (trn n) w (trn n) w (trn n) (m + e + 1) (a : Int) o o (tabOf ov n) (tabOf ov n) = some (.inl ())
  | 0, a, e, o, ov, h, _, _ => by
    show psalterylaw09_LappedForgets.r0 1100 c0 l (n : Int) w (trn n) w (trn n) w (trn n) w (trn n) (psalterylaw09_LappedForgets.l0 1100 c0 l (n : Int) w (trn n) w (trn n) w (trn n) w (trn n) (0 + e)) (a : Int) o o (tabOf ov n) (tabOf ov n) = _
    exact bif_eq_f (decide_eq_false (by omega)) rfl
  | m + 1, a, e, o, ov, h, ha, ho => by
    obtain ⟨h1, h2⟩ := hn.b
    show psalterylaw09_LappedForgets.r0 1100 c0 l (n : Int) w (trn n) w (trn n) w (trn n) w (trn n) (psalterylaw09_LappedForgets.l0 1100 c0 l (n : Int) w (trn n) w (trn n) w (trn n) w (trn n) (m + 1 + e)) (a : Int) o o (tabOf ov n) (tabOf ov n) = _
    by_cases hc : a < l.length
    · obtain ⟨x, hx, hp⟩ := padded_w hn l (a := a) (by omega) (by omega)
      have hf := feed_w 1100 hn (by decide) hx ho hw
      have hu := unfeed_w 1100 hn (by decide) ov (c := tabOf (outv n w (o ++ x)) n) (tabOf_len _ _) hw
      refine bif_eq_t (decide_eq_true (by omega)) ?_
      refine bnd_eq hp ?_
      refine bnd_eq hf ?_
      refine bnd_eq hp ?_
      refine bnd_eq hf ?_
      refine bnd_eq hu ?_
      refine bnd_eq hu ?_
      refine bnd_eq (x := (true, false, false)) ?_ ?_
      · refine bnd_eq (same32_w (by rw [tabOf_len]; omega)) ?_
        refine bif_eq_f rfl ?_
        exact bnd_eq (same32_w (by rw [tabOf_len]; omega)) rfl
      · refine bif_eq_f rfl ?_
        rw [kw_i64 (x := (a : Int) + (n : Int)) (by omega) (by omega), show (a : Int) + (n : Int) = ((a + n : Nat) : Int) by omega, show m + 1 + e = m + e + 1 by omega]
        exact same_loop hn hw c0 l hl m (a + n) e x _ (by omega) (by omega) hx
    · exact bif_eq_f (decide_eq_false (by omega)) rfl
theorem lforgets_w {p : Int} (h0 : 0 ≤ p) (h1 : p < 256) (past l : List Int) (r : Bool) : psalterylaw09_LappedForgets 1100 p past l r = some true := by
  obtain ⟨n, hn, hp⟩ := length_w h0 h1
  obtain ⟨b1, b2⟩ := hn.b
  refine bnd_eq alive9_w ?_
  refine bif_eq_f rfl ?_
  refine bnd_eq hp ?_
  by_cases hl : (past.length : Int) > 300 ∨ (l.length : Int) > 300
  · refine bif_eq_t ?_ rfl
    rcases hl with h | h
    · rw [decide_eq_true h]; rfl
    · rw [decide_eq_true h]; cases decide ((past.length : Int) > 300) <;> rfl
  refine bif_eq_f (by rw [decide_eq_false (fun h => hl (.inl h)), decide_eq_false (fun h => hl (.inr h))]; rfl) ?_
  have hlp : past.length ≤ 300 := by omega
  have hll : l.length ≤ 300 := by omega
  refine bnd_eq (x := ()) rfl ?_
  have hck := chkw_all hn
  unfold chkw at hck
  split at hck
  · rename_i w t1 a1 b1' hW
    simp only [Bool.and_eq_true, beq_iff_eq] at hck
    have hw : w.length = 2 * n := by have := hck.2; omega
    have H0 := Bt.new n
    obtain ⟨ta, aa, ba, Ha, hna⟩ := lap_any hn H0 hW H0 0 0
    refine bnd_eq hna ?_
    obtain ⟨tc, ac, bc, Hc, hnc⟩ := lap_any hn H0 hW Ha aa ba
    refine bnd_eq hnc ?_
    obtain ⟨tu, au, bu, Hu, hnu⟩ := unl_any hn H0 hW Hc ac bc
    refine bnd_eq hnu ?_
    obtain ⟨tv, av', bv, Hv, hnv⟩ := unl_any hn H0 hW Hu au bu
    refine bnd_eq hnv ?_
    obtain ⟨o', ov', ho', hpast⟩ := past_w hn hw past hlp l r w (trn n) w (trn n) (List.replicate n 0) (List.replicate n 0) 400 0 699 (List.replicate n 0) (fun _ => 0) (by omega) (by omega) List.length_replicate
    rw [← zeros_tab] at hpast
    refine bnd_eq hpast ?_
    refine bnd_eq (x := (List.replicate n 0, List.replicate n 0)) ?_ ?_
    · cases r with
      | true =>
        refine bif_eq_t rfl ?_
        refine bnd_eq (x := List.replicate n 0) (by unfold lapped_Lapper_Reset; rw [ho']) ?_
        refine bnd_eq (x := List.replicate n 0) (by unfold lapped_Unlapper_Reset; rw [tabOf_len]) ?_
        rfl
      | false =>
        refine bif_eq_f rfl ?_
        refine gd_eq (by omega) ?_
        rw [Int.toNat_natCast]
        refine bnd_eq (feed_w 1100 hn (by decide) List.length_replicate ho' hw) ?_
        refine gd_eq (by omega) ?_
        refine bnd_eq (unfeed_w 1100 hn (by decide) ov' List.length_replicate hw) ?_
        rw [show tabOf (fun j => smp n w (List.replicate n 0) (n + j)) n = List.replicate n 0 from (tabOf_cg fun j _ => smp0 hn w (n + j)).trans (zeros_tab n).symm]
    · dsimp only
      have hs := same_loop hn hw past l hll 400 0 699 (List.replicate n 0) (fun _ => 0) (by omega) (by omega) List.length_replicate
      rw [← zeros_tab] at hs
      refine bnd_eq hs ?_
      refine bnd_eq (x := ()) rfl ?_
      refine bnd_eq (x := ()) rfl ?_
      refine bnd_eq (x := ()) rfl ?_
      exact bnd_eq (x := ()) rfl rfl
  · cases hck
end Go.Fo
