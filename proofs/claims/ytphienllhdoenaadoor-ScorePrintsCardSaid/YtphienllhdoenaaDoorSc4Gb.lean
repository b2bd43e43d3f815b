/- Lines of steps: what is told of a step, and of all. -/
import Derived.Test.YtphienllhdoenaaDoorSc4Ga
namespace Go.Fo
set_option maxRecDepth 6000
def smpT (x : Int) : List UInt8 := 32 :: (if x < 0 then 45 :: dgs (-x).toNat else dgs x.toNat)
theorem dg5 {n : Nat} (h : n < 100000) : 1 ≤ (dgs n).length ∧ (dgs n).length ≤ 5 := dgs_len 5 n (by decide) (by simpa using h)
theorem smpT_len {x : Int} (h : -32768 ≤ x ∧ x ≤ 32767) : (smpT x).length ≤ 7 := by
  unfold smpT
  split
  · have := dg5 (n := (-x).toNat) (by omega)
    simp only [List.length_cons]; omega
  · have := dg5 (n := x.toNat) (by omega)
    simp only [List.length_cons]; omega
theorem snum_w (K : Nat) (hK : 30 ≤ K) {x : Int} (h : -32768 ≤ x ∧ x ≤ 32767) : score_number K x = some (ofl (if x < 0 then 45 :: dgs (-x).toNat else dgs x.toNat)) := by
  by_cases h0 : x < 0
  · rw [if_pos h0]
    obtain ⟨K, rfl⟩ : ∃ q, K = q + 1 := ⟨K - 1, by omega⟩
    have hl := dg5 (n := (-x).toNat) (by omega)
    rw [score_number]
    refine bif_eq_t (decide_eq_true h0) ?_
    rw [kw_i64 (by omega) (by omega)]
    refine bnd_eq (num10 K (by omega) (x := 0 - x) (by omega) (by omega)) ?_
    have e : (⟨#[45]⟩ : ByteArray) = ofl [45] := rfl
    rw [e, ofl_app, Int.zero_sub]
    exact gd_eq (by rw [ofl_size, ofl_size]; simp only [List.length_cons, List.length_nil]; omega) rfl
  · rw [if_neg h0]
    exact num10 K (by omega) (by omega) (by omega)
theorem fm7 : ∀ (r : List Int), (∀ x ∈ r, -32768 ≤ x ∧ x ≤ 32767) → (r.flatMap smpT).length ≤ 7 * r.length
  | [], _ => by simp
  | x :: r, h => by
    have h1 := smpT_len (h x (List.mem_cons_self ..))
    have h2 := fm7 r (fun y hy => h y (List.mem_cons_of_mem _ hy))
    rw [List.flatMap_cons, List.length_append, List.length_cons]; omega
theorem tsmp_loop (K : Nat) (hK : 30 ≤ K) (l : List Int) (y0 y1 : Int) (y2 y3 : List Int) (y4 : List Slot) (hl : ∀ x ∈ l, -32768 ≤ x ∧ x ≤ 32767) (hn : l.length ≤ 70000) : ∀ (r : List Int) (i e : Nat) (acc : List UInt8), l.drop i = r → acc.length + 7 * r.length ≤ 1000000 →
    score_told.l0 K l (l.length : Int) y0 y1 y2 y3 y4 (r.length + e + 1) (i : Int) (ints acc) = some (ints (acc ++ r.flatMap smpT))
  | [], i, e, acc, h, ha => by
    have hi : l.length ≤ i := List.drop_eq_nil_iff.1 h
    show score_told.r0 K l (l.length : Int) y0 y1 y2 y3 y4 (score_told.l0 K l (l.length : Int) y0 y1 y2 y3 y4 (0 + e)) (i : Int) (ints acc) = _
    exact bif_eq_f (decide_eq_false (by omega)) (by simp)
  | x :: r, i, e, acc, h, ha => by
    have hi := drop_len h
    have hx := hl x (List.mem_of_mem_drop (by rw [h]; exact List.mem_cons_self ..))
    have hsl := smpT_len hx
    show score_told.r0 K l (l.length : Int) y0 y1 y2 y3 y4 (score_told.l0 K l (l.length : Int) y0 y1 y2 y3 y4 (r.length + 1 + e)) (i : Int) (ints acc) = _
    have e1 : (Kd.int .i16).nth l (Int.toNat (i : Int)) = x := nth_drop (k := .int .i16) h
    rw [List.length_cons] at ha
    refine bif_eq_t (decide_eq_true (by omega)) ?_
    dsimp only
    rw [e1, kw_i64 (x := x) (by omega) (by omega)]
    refine gd_eq ⟨by omega, by omega⟩ ?_
    refine bnd_eq (snum_w K hK hx) ?_
    have e2 : (⟨#[32]⟩ : ByteArray) = ofl [32] := rfl
    rw [e2, ofl_app]
    refine gd_eq (by
      have : (smpT x).length = (ofl (if x < 0 then 45 :: dgs (-x).toNat else dgs x.toNat)).size + 1 := by rw [ofl_size]; rfl
      rw [ofl_size [32]]; simp only [List.length_cons, List.length_nil]; omega) ?_
    refine bnd_eq (ws_w K (smpT x) acc (by omega)) ?_
    rw [kw_i64 (by omega) (by omega), show r.length + 1 + e = r.length + e + 1 by omega, show (i : Int) + 1 = ((i + 1 : Nat) : Int) by omega]
    refine (tsmp_loop K hK l y0 y1 y2 y3 y4 hl hn r (i + 1) e (acc ++ smpT x) (drop_tail h) (by rw [List.length_append]; omega)).trans ?_
    rw [List.flatMap_cons, List.append_assoc]
theorem rsmp_loop (K : Nat) (hK : 30 ≤ K) (l : List Int) (y0 y1 : Int) (y2 y3 : List Int) (y4 : List Slot) (hl : ∀ x ∈ l, -32768 ≤ x ∧ x ≤ 32767) (hn : l.length ≤ 70000) : ∀ (r : List Int) (i e : Nat) (acc : List UInt8), l.drop i = r → acc.length + 7 * r.length ≤ 1000000 →
    psalteryref34_Told.l0 K y0 y1 l y2 y3 y4 (r.length + e + 1) (ofl acc) (i : Int) = some (ofl (acc ++ r.flatMap smpT))
  | [], i, e, acc, h, ha => by
    have hi : l.length ≤ i := List.drop_eq_nil_iff.1 h
    show psalteryref34_Told.r0 K y0 y1 l y2 y3 y4 (psalteryref34_Told.l0 K y0 y1 l y2 y3 y4 (0 + e)) (ofl acc) (i : Int) = _
    exact bif_eq_f (decide_eq_false (by omega)) (by simp)
  | x :: r, i, e, acc, h, ha => by
    have hi := drop_len h
    have hx := hl x (List.mem_of_mem_drop (by rw [h]; exact List.mem_cons_self ..))
    have hsl := smpT_len hx
    show psalteryref34_Told.r0 K y0 y1 l y2 y3 y4 (psalteryref34_Told.l0 K y0 y1 l y2 y3 y4 (r.length + 1 + e)) (ofl acc) (i : Int) = _
    have e1 : (Kd.int .i16).nth l (Int.toNat (i : Int)) = x := nth_drop (k := .int .i16) h
    rw [List.length_cons] at ha
    refine bif_eq_t (decide_eq_true (by omega)) ?_
    refine bnd_eq (x := ofl (acc ++ smpT x)) ?_ ?_
    · dsimp only
      rw [e1, kw_i64 (x := x) (by omega) (by omega)]
      refine gd_eq ⟨by omega, by omega⟩ ?_
      unfold smpT at hsl ⊢
      by_cases h0 : x < 0
      · rw [if_pos h0] at hsl ⊢
        simp only [List.length_cons] at hsl
        refine bif_eq_t (decide_eq_true h0) ?_
        refine gd_eq (by rw [ofl_size]; show acc.length + 2 ≤ _; omega) ?_
        rw [kw_i64 (by omega) (by omega)]
        refine bnd_eq (digs10 K (by omega) (x := 0 - x) (by omega) (by omega)) ?_
        have e2 : (⟨#[32, 45]⟩ : ByteArray) = ofl [32, 45] := rfl
        rw [e2, ofl_app, ofl_app, Int.zero_sub, List.append_assoc]
        exact gd_eq (by rw [ofl_size, ofl_size, List.length_append]; simp only [List.length_cons, List.length_nil]; omega) rfl
      · rw [if_neg h0] at hsl ⊢
        simp only [List.length_cons] at hsl
        refine bif_eq_f (decide_eq_false h0) ?_
        refine gd_eq (by rw [ofl_size]; show acc.length + 1 ≤ _; omega) ?_
        refine bnd_eq (digs10 K (by omega) (x := x) (by omega) (by omega)) ?_
        have e2 : (⟨#[32]⟩ : ByteArray) = ofl [32] := rfl
        rw [e2, ofl_app, ofl_app, List.append_assoc]
        exact gd_eq (by rw [ofl_size, ofl_size, List.length_append]; simp only [List.length_cons, List.length_nil]; omega) rfl
    · dsimp only
      rw [kw_i64 (by omega) (by omega), show r.length + 1 + e = r.length + e + 1 by omega, show (i : Int) + 1 = ((i + 1 : Nat) : Int) by omega]
      refine (rsmp_loop K hK l y0 y1 y2 y3 y4 hl hn r (i + 1) e (acc ++ smpT x) (drop_tail h) (by rw [List.length_append]; omega)).trans ?_
      rw [List.flatMap_cons, List.append_assoc]
def toks : List Slot → Option (List UInt8)
  | [] => some []
  | s :: r => match tokT s with
    | none => none
    | some t => (toks r).map fun u => 32 :: (t ++ u)
theorem toks_cons (s : Slot) (r : List Slot) : toks (s :: r) = match tokT s with | none => none | some t => (toks r).map fun u => 32 :: (t ++ u) := rfl
theorem toks_len : ∀ {r : List Slot} {t : List UInt8}, (∀ s ∈ r, 0 ≤ s.2.2.2 ∧ s.2.2.2 < 4294967296) → toks r = some t → t.length ≤ 44 * r.length
  | [], t, _, h => by cases h; simp
  | s :: r, t, hm, h => by
    unfold toks at h
    split at h
    · cases h
    · rename_i u hu
      rw [Option.map_eq_some_iff] at h
      obtain ⟨v, h1, rfl⟩ := h
      have h2 := tokT_len (hm s (List.mem_cons_self ..)) hu
      have h3 := toks_len (fun x hx => hm x (List.mem_cons_of_mem _ hx)) h1
      simp only [List.length_cons, List.length_append]; omega
theorem ttok_loop (K : Nat) (hK : 30 ≤ K) (l : List Slot) (y0 y1 : Int) (y2 y3 y4 : List Int) (hl : ∀ s ∈ l, 0 ≤ s.2.2.2 ∧ s.2.2.2 < 4294967296) (hn : l.length ≤ 70000) : ∀ (r : List Slot) (i e : Nat) (acc : List UInt8), l.drop i = r → acc.length + 44 * r.length ≤ 10000000 →
    score_told.l1 K l (l.length : Int) y0 y1 y2 y3 y4 (r.length + e + 1) (i : Int) (ints acc) = some (match toks r with | some u => .inl (ints (acc ++ u)) | none => .inr (⟨#[]⟩, false))
  | [], i, e, acc, h, ha => by
    have hi : l.length ≤ i := List.drop_eq_nil_iff.1 h
    show score_told.r1 K l (l.length : Int) y0 y1 y2 y3 y4 (score_told.l1 K l (l.length : Int) y0 y1 y2 y3 y4 (0 + e)) (i : Int) (ints acc) = _
    exact bif_eq_f (decide_eq_false (by omega)) (by simp [toks])
  | s :: r, i, e, acc, h, ha => by
    have hi := drop_len h
    have hm := hl s (List.mem_of_mem_drop (by rw [h]; exact List.mem_cons_self ..))
    show score_told.r1 K l (l.length : Int) y0 y1 y2 y3 y4 (score_told.l1 K l (l.length : Int) y0 y1 y2 y3 y4 (r.length + 1 + e)) (i : Int) (ints acc) = _
    have e1 : (Kd.pair (.int .i64) (.pair (.int .i64) (.pair (.int .i64) (.int .u32)))).nth l (Int.toNat (i : Int)) = s := nth_drop (k := .pair (.int .i64) (.pair (.int .i64) (.pair (.int .i64) (.int .u32)))) h
    rw [List.length_cons] at ha
    refine bif_eq_t (decide_eq_true (by omega)) ?_
    dsimp only
    rw [e1]
    refine gd_eq ⟨by omega, by omega⟩ ?_
    obtain ⟨t, ht, hu⟩ := tok_w K hK s hm
    refine bnd_eq ht ?_
    rw [toks_cons]
    cases hs : tokT s with
    | none => rfl
    | some u =>
      have := hu u hs
      subst this
      have hsl := tokT_len hm hs
      refine bif_eq_f rfl ?_
      have e2 : (⟨#[32]⟩ : ByteArray) = ofl [32] := rfl
      rw [e2, ofl_app]
      refine gd_eq (by rw [ofl_size, ofl_size]; simp only [List.length_cons, List.length_nil]; omega) ?_
      refine bnd_eq (ws_w K ([32] ++ u) acc (by rw [List.length_append]; simp only [List.length_cons, List.length_nil]; omega)) ?_
      rw [kw_i64 (by omega) (by omega), show r.length + 1 + e = r.length + e + 1 by omega, show (i : Int) + 1 = ((i + 1 : Nat) : Int) by omega]
      refine (ttok_loop K hK l y0 y1 y2 y3 y4 hl hn r (i + 1) e (acc ++ ([32] ++ u)) (drop_tail h) (by simp only [List.length_append, List.length_cons, List.length_nil]; omega)).trans ?_
      cases toks r with
      | none => rfl
      | some v => simp
theorem rtok_loop (K : Nat) (hK : 30 ≤ K) (l : List Slot) (y0 y1 : Int) (y2 y3 y4 : List Int) (hl : ∀ s ∈ l, 0 ≤ s.2.2.2 ∧ s.2.2.2 < 4294967296) (hn : l.length ≤ 70000) : ∀ (r : List Slot) (i e : Nat) (acc : List UInt8), l.drop i = r → acc.length + 44 * r.length ≤ 10000000 →
    psalteryref34_Told.l1 K y0 y1 y2 y3 y4 l (r.length + e + 1) (ofl acc) (i : Int) = some (match toks r with | some u => .inl (ofl (acc ++ u)) | none => .inr (⟨#[]⟩, false))
  | [], i, e, acc, h, ha => by
    have hi : l.length ≤ i := List.drop_eq_nil_iff.1 h
    show psalteryref34_Told.r1 K y0 y1 y2 y3 y4 l (psalteryref34_Told.l1 K y0 y1 y2 y3 y4 l (0 + e)) (ofl acc) (i : Int) = _
    exact bif_eq_f (decide_eq_false (by omega)) (by simp [toks])
  | (a, b, c, d) :: r, i, e, acc, h, ha => by
    have hi := drop_len h
    have hm : 0 ≤ d ∧ d < 4294967296 := hl _ (List.mem_of_mem_drop (by rw [h]; exact List.mem_cons_self ..))
    show psalteryref34_Told.r1 K y0 y1 y2 y3 y4 l (psalteryref34_Told.l1 K y0 y1 y2 y3 y4 l (r.length + 1 + e)) (ofl acc) (i : Int) = _
    have e1 : (Kd.pair (.int .i64) (.pair (.int .i64) (.pair (.int .i64) (.int .u32)))).nth l (Int.toNat (i : Int)) = (a, b, c, d) := nth_drop (k := .pair (.int .i64) (.pair (.int .i64) (.pair (.int .i64) (.int .u32)))) h
    rw [List.length_cons] at ha
    have fin : ∀ u : List UInt8, tokT (a, b, c, d) = some u → psalteryref34_Told.l1 K y0 y1 y2 y3 y4 l (r.length + 1 + e) (ofl (acc ++ 32 :: u)) (kwrap .i64 ((i : Int) + 1)) = some (match toks ((a, b, c, d) :: r) with | some u => .inl (ofl (acc ++ u)) | none => .inr (⟨#[]⟩, false)) := by
      intro u hu
      have hsl := tokT_len (s := (a, b, c, d)) hm hu
      rw [kw_i64 (by omega) (by omega), show r.length + 1 + e = r.length + e + 1 by omega, show (i : Int) + 1 = ((i + 1 : Nat) : Int) by omega]
      refine (rtok_loop K hK l y0 y1 y2 y3 y4 hl hn r (i + 1) e (acc ++ 32 :: u) (drop_tail h) (by simp only [List.length_append, List.length_cons]; omega)).trans ?_
      rw [toks_cons, hu]
      cases toks r with
      | none => rfl
      | some v => simp
    refine bif_eq_t (decide_eq_true (by omega)) ?_
    dsimp only
    rw [e1]
    dsimp only
    rw [slot_eq, slot_eq, slot_eq]
    have ge2 : ∀ x y : UInt8, (ofl acc).size + (⟨#[x, y]⟩ : ByteArray).size ≤ 9223372036854775807 := fun x y => by rw [ofl_size]; show acc.length + 2 ≤ _; omega
    have es : ∀ x y : UInt8, ofl acc ++ (⟨#[x, y]⟩ : ByteArray) = ofl (acc ++ [x, y]) := fun x y => ofl_app acc [x, y]
    by_cases h1 : (a, (b, (c, d))) = ((0, (0, (0, 0))) : Slot)
    · refine bnd_eq (x := .inl (ofl (acc ++ [32, 46]))) (gd_eq ⟨by omega, by omega⟩ (bif_eq_t (decide_eq_true h1) (gd_eq (ge2 _ _) (by rw [es])))) ?_
      exact fin [46] (by unfold tokT; rw [if_pos h1])
    by_cases h2 : (a, (b, (c, d))) = ((1, (0, (0, 0))) : Slot)
    · refine bnd_eq (x := .inl (ofl (acc ++ [32, 120]))) (gd_eq ⟨by omega, by omega⟩ (bif_eq_f (decide_eq_false h1) (bif_eq_t (decide_eq_true h2) (gd_eq (ge2 _ _) (by rw [es]))))) ?_
      exact fin [120] (by unfold tokT; rw [if_neg h1, if_pos h2])
    by_cases h3 : (a, (b, (c, d))) = ((0, (1, (0, 0))) : Slot)
    · refine bnd_eq (x := .inl (ofl (acc ++ [32, 97]))) (gd_eq ⟨by omega, by omega⟩ (bif_eq_f (decide_eq_false h1) (bif_eq_f (decide_eq_false h2) (bif_eq_t (decide_eq_true h3) (gd_eq (ge2 _ _) (by rw [es])))))) ?_
      exact fin [97] (by unfold tokT; rw [if_neg h1, if_neg h2, if_pos h3])
    by_cases h4 : n31 a ∧ n31 b ∧ n31 c
    · have ht : tokT (a, b, c, d) = some (dgs a.toNat ++ 47 :: (dgs b.toNat ++ 47 :: (dgs c.toNat ++ 47 :: dgs d.toNat))) := by unfold tokT; rw [if_neg h1, if_neg h2, if_neg h3, if_pos h4]
      have hf := fin _ ht
      have hsl := tokT_len (s := (a, b, c, d)) hm ht
      unfold n31 at h4
      have l1 := dg10 (n := a.toNat) (by omega)
      have l2 := dg10 (n := b.toNat) (by omega)
      have l3 := dg10 (n := c.toNat) (by omega)
      have l4 := dg10 (n := d.toNat) (by omega)
      have e32 : (⟨#[32]⟩ : ByteArray) = ofl [32] := rfl
      have e47 : (⟨#[47]⟩ : ByteArray) = ofl [47] := rfl
      refine bnd_eq (x := .inl (ofl (acc ++ 32 :: (dgs a.toNat ++ 47 :: (dgs b.toNat ++ 47 :: (dgs c.toNat ++ 47 :: dgs d.toNat)))))) (gd_eq ⟨by omega, by omega⟩ (bif_eq_f (decide_eq_false h1) (bif_eq_f (decide_eq_false h2) (bif_eq_f (decide_eq_false h3) (bif_eq_f ?_ ?_))))) ?_
      · rw [decide_eq_false (p := a < 0) (by omega), decide_eq_false (p := a ≥ 2147483648) (by omega), decide_eq_false (p := b < 0) (by omega), decide_eq_false (p := b ≥ 2147483648) (by omega), decide_eq_false (p := c < 0) (by omega), decide_eq_false (p := c ≥ 2147483648) (by omega)]; rfl
      · rw [e32, e47, ofl_app]
        refine gd_eq (by rw [ofl_size, ofl_size]; simp only [List.length_cons, List.length_nil]; omega) ?_
        refine bnd_eq (digs10 K (by omega) h4.1.1 (by omega)) ?_
        rw [ofl_app, ofl_app]
        refine gd_eq (by rw [ofl_size, ofl_size]; simp only [List.length_append, List.length_cons, List.length_nil]; omega) ?_
        refine gd_eq (by rw [ofl_size, ofl_size]; simp only [List.length_append, List.length_cons, List.length_nil]; omega) ?_
        refine bnd_eq (digs10 K (by omega) h4.2.1.1 (by omega)) ?_
        rw [ofl_app, ofl_app]
        refine gd_eq (by rw [ofl_size, ofl_size]; simp only [List.length_append, List.length_cons, List.length_nil]; omega) ?_
        refine gd_eq (by rw [ofl_size, ofl_size]; simp only [List.length_append, List.length_cons, List.length_nil]; omega) ?_
        refine bnd_eq (digs10 K (by omega) h4.2.2.1 (by omega)) ?_
        rw [ofl_app, ofl_app]
        refine gd_eq (by rw [ofl_size, ofl_size]; simp only [List.length_append, List.length_cons, List.length_nil]; omega) ?_
        refine gd_eq (by rw [ofl_size, ofl_size]; simp only [List.length_append, List.length_cons, List.length_nil]; omega) ?_
        rw [kw_i64 (by omega) (by omega)]
        refine bnd_eq (digs10 K (by omega) hm.1 (by omega)) ?_
        rw [ofl_app]
        refine gd_eq (by rw [ofl_size, ofl_size]; simp only [List.length_append, List.length_cons, List.length_nil]; omega) ?_
        simp
      · exact hf
    · have ht : tokT (a, b, c, d) = none := by unfold tokT; rw [if_neg h1, if_neg h2, if_neg h3, if_neg h4]
      rw [toks_cons, ht]
      refine bnd_eq (x := .inr (⟨#[]⟩, false)) (gd_eq ⟨by omega, by omega⟩ (bif_eq_f (decide_eq_false h1) (bif_eq_f (decide_eq_false h2) (bif_eq_f (decide_eq_false h3) (bif_eq_t ?_ rfl))))) rfl
      unfold n31 at h4
      by_cases g1 : a < 0
      · rw [decide_eq_true g1]; rfl
      by_cases g2 : a ≥ 2147483648
      · rw [decide_eq_false g1, decide_eq_true g2]; rfl
      by_cases g3 : b < 0
      · rw [decide_eq_false g1, decide_eq_false g2, decide_eq_true g3]; rfl
      by_cases g4 : b ≥ 2147483648
      · rw [decide_eq_false g1, decide_eq_false g2, decide_eq_false g3, decide_eq_true g4]; rfl
      by_cases g5 : c < 0
      · rw [decide_eq_false g1, decide_eq_false g2, decide_eq_false g3, decide_eq_false g4, decide_eq_true g5]; rfl
      by_cases g6 : c ≥ 2147483648
      · rw [decide_eq_false g1, decide_eq_false g2, decide_eq_false g3, decide_eq_false g4, decide_eq_false g5, decide_eq_true g6]; rfl
      exact absurd ⟨⟨by omega, by omega⟩, ⟨by omega, by omega⟩, ⟨by omega, by omega⟩⟩ h4
end Go.Fo
