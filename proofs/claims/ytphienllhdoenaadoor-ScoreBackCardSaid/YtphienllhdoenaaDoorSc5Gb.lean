/- Lines of steps: what is told of a step, and of all. -/
import Derived.Test.YtphienllhdoenaaDoorSc5Ga
namespace Go.Fo
set_option maxRecDepth 6000
def smpT (x : Int) : List UInt8 := 32 :: (if x < 0 then 45 :: dgs (-x).toNat else dgs x.toNat)
theorem dg5 {n : Nat} (h : n < 100000) : 1 ≤ (dgs n).length ∧ (dgs n).length ≤ 5 := dgs_len 5 n (by decide) (by simpa using h)
theorem smpT_len {x : Int} (h : -32768 ≤ x ∧ x ≤ 32767) : (smpT x).length ≤ 7 := by
  unfold smpT
  split
  · have := dg5 (n := (-x).toNat) (by omega)
    simp only [List.length_cons]; omega
  · have := dg5 (n := x.toNat) (by omega)
    simp only [List.length_cons]; omega
theorem snum_w (K : Nat) (hK : 30 ≤ K) {x : Int} (h : -32768 ≤ x ∧ x ≤ 32767) : score_number K x = some (ofl (if x < 0 then 45 :: dgs (-x).toNat else dgs x.toNat)) := by
  by_cases h0 : x < 0
  · rw [if_pos h0]
    obtain ⟨K, rfl⟩ : ∃ q, K = q + 1 := ⟨K - 1, by omega⟩
    have hl := dg5 (n := (-x).toNat) (by omega)
    rw [score_number]
    refine bif_eq_t (decide_eq_true h0) ?_
    rw [kw_i64 (by omega) (by omega)]
    refine bnd_eq (num10 K (by omega) (x := 0 - x) (by omega) (by omega)) ?_
    have e : (⟨#[45]⟩ : ByteArray) = ofl [45] := rfl
    rw [e, ofl_app, Int.zero_sub]
    exact gd_eq (by rw [ofl_size, ofl_size]; simp only [List.length_cons, List.length_nil]; omega) rfl
  · rw [if_neg h0]
    exact num10 K (by omega) (by omega) (by omega)
theorem fm7 : ∀ (r : List Int), (∀ x ∈ r, -32768 ≤ x ∧ x ≤ 32767) → (r.flatMap smpT).length ≤ 7 * r.length
  | [], _ => by simp
  | x :: r, h => by
    have h1 := smpT_len (h x (List.mem_cons_self ..))
    have h2 := fm7 r (fun y hy => h y (List.mem_cons_of_mem _ hy))
    rw [List.flatMap_cons, List.length_append, List.length_cons]; omega
theorem tsmp_loop (K : Nat) (hK : 30 ≤ K) (l : List Int) (y0 y1 : Int) (y2 y3 : List Int) (y4 : List Slot) (hl : ∀ x ∈ l, -32768 ≤ x ∧ x ≤ 32767) (hn : l.length ≤ 70000) : ∀ (r : List Int) (i e : Nat) (acc : List UInt8), l.drop i = r → acc.length + 7 * r.length ≤ 1000000 →
    score_told.l0 K l (l.length : Int) y0 y1 y2 y3 y4 (r.length + e + 1) (i : Int) (ints acc) = some (ints (acc ++ r.flatMap smpT))
  | [], i, e, acc, h, ha => by
    have hi : l.length ≤ i := List.drop_eq_nil_iff.1 h
    show score_told.r0 K l (l.length : Int) y0 y1 y2 y3 y4 (score_told.l0 K l (l.length : Int) y0 y1 y2 y3 y4 (0 + e)) (i : Int) (ints acc) = _
    exact bif_eq_f (decide_eq_false (by omega)) (by simp)
  | x :: r, i, e, acc, h, ha => by
    have hi := drop_len h
    have hx := hl x (List.mem_of_mem_drop (by rw [h]; exact List.mem_cons_self ..))
    have hsl := smpT_len hx
    show score_told.r0 K l (l.length : Int) y0 y1 y2 y3 y4 (score_told.l0 K l (l.length : Int) y0 y1 y2 y3 y4 (r.length + 1 + e)) (i : Int) (ints acc) = _
    have e1 : (Kd.int .i16).nth l (Int.toNat (i : Int)) = x := nth_drop (k := .int .i16) h
    rw [List.length_cons] at ha
    refine bif_eq_t (decide_eq_true (by omega)) ?_
    dsimp only
    rw [e1, kw_i64 (x := x) (by omega) (by omega)]
    refine gd_eq ⟨by omega, by omega⟩ ?_
    refine bnd_eq (snum_w K hK hx) ?_
    have e2 : (⟨#[32]⟩ : ByteArray) = ofl [32] := rfl
    rw [e2, ofl_app]
    refine gd_eq (by
      have : (smpT x).length = (ofl (if x < 0 then 45 :: dgs (-x).toNat else dgs x.toNat)).size + 1 := by rw [ofl_size]; rfl
      rw [ofl_size [32]]; simp only [List.length_cons, List.length_nil]; omega) ?_
    refine bnd_eq (ws_w K (smpT x) acc (by omega)) ?_
    rw [kw_i64 (by omega) (by omega), show r.length + 1 + e = r.length + e + 1 by omega, show (i : Int) + 1 = ((i + 1 : Nat) : Int) by omega]
    refine (tsmp_loop K hK l y0 y1 y2 y3 y4 hl hn r (i + 1) e (acc ++ smpT x) (drop_tail h) (by rw [List.length_append]; omega)).trans ?_
    rw [List.flatMap_cons, List.append_assoc]
def toks : List Slot → Option (List UInt8)
  | [] => some []
  | s :: r => match tokT s with
    | none => none
    | some t => (toks r).map fun u => 32 :: (t ++ u)
theorem toks_cons (s : Slot) (r : List Slot) : toks (s :: r) = match tokT s with | none => none | some t => (toks r).map fun u => 32 :: (t ++ u) := rfl
theorem toks_len : ∀ {r : List Slot} {t : List UInt8}, (∀ s ∈ r, 0 ≤ s.2.2.2 ∧ s.2.2.2 < 4294967296) → toks r = some t → t.length ≤ 44 * r.length
  | [], t, _, h => by cases h; simp
  | s :: r, t, hm, h => by
    unfold toks at h
    split at h
    · cases h
    · rename_i u hu
      rw [Option.map_eq_some_iff] at h
      obtain ⟨v, h1, rfl⟩ := h
      have h2 := tokT_len (hm s (List.mem_cons_self ..)) hu
      have h3 := toks_len (fun x hx => hm x (List.mem_cons_of_mem _ hx)) h1
      simp only [List.length_cons, List.length_append]; omega
theorem ttok_loop (K : Nat) (hK : 30 ≤ K) (l : List Slot) (y0 y1 : Int) (y2 y3 y4 : List Int) (hl : ∀ s ∈ l, 0 ≤ s.2.2.2 ∧ s.2.2.2 < 4294967296) (hn : l.length ≤ 70000) : ∀ (r : List Slot) (i e : Nat) (acc : List UInt8), l.drop i = r → acc.length + 44 * r.length ≤ 10000000 →
    score_told.l1 K l (l.length : Int) y0 y1 y2 y3 y4 (r.length + e + 1) (i : Int) (ints acc) = some (match toks r with | some u => .inl (ints (acc ++ u)) | none => .inr (⟨#[]⟩, false))
  | [], i, e, acc, h, ha => by
    have hi : l.length ≤ i := List.drop_eq_nil_iff.1 h
    show score_told.r1 K l (l.length : Int) y0 y1 y2 y3 y4 (score_told.l1 K l (l.length : Int) y0 y1 y2 y3 y4 (0 + e)) (i : Int) (ints acc) = _
    exact bif_eq_f (decide_eq_false (by omega)) (by simp [toks])
  | s :: r, i, e, acc, h, ha => by
    have hi := drop_len h
    have hm := hl s (List.mem_of_mem_drop (by rw [h]; exact List.mem_cons_self ..))
    show score_told.r1 K l (l.length : Int) y0 y1 y2 y3 y4 (score_told.l1 K l (l.length : Int) y0 y1 y2 y3 y4 (r.length + 1 + e)) (i : Int) (ints acc) = _
    have e1 : (Kd.pair (.int .i64) (.pair (.int .i64) (.pair (.int .i64) (.int .u32)))).nth l (Int.toNat (i : Int)) = s := nth_drop (k := .pair (.int .i64) (.pair (.int .i64) (.pair (.int .i64) (.int .u32)))) h
    rw [List.length_cons] at ha
    refine bif_eq_t (decide_eq_true (by omega)) ?_
    dsimp only
    rw [e1]
    refine gd_eq ⟨by omega, by omega⟩ ?_
    obtain ⟨t, ht, hu⟩ := tok_w K hK s hm
    refine bnd_eq ht ?_
    rw [toks_cons]
    cases hs : tokT s with
    | none => rfl
    | some u =>
      have := hu u hs
      subst this
      have hsl := tokT_len hm hs
      refine bif_eq_f rfl ?_
      have e2 : (⟨#[32]⟩ : ByteArray) = ofl [32] := rfl
      rw [e2, ofl_app]
      refine gd_eq (by rw [ofl_size, ofl_size]; simp only [List.length_cons, List.length_nil]; omega) ?_
      refine bnd_eq (ws_w K ([32] ++ u) acc (by rw [List.length_append]; simp only [List.length_cons, List.length_nil]; omega)) ?_
      rw [kw_i64 (by omega) (by omega), show r.length + 1 + e = r.length + e + 1 by omega, show (i : Int) + 1 = ((i + 1 : Nat) : Int) by omega]
      refine (ttok_loop K hK l y0 y1 y2 y3 y4 hl hn r (i + 1) e (acc ++ ([32] ++ u)) (drop_tail h) (by simp only [List.length_append, List.length_cons, List.length_nil]; omega)).trans ?_
      cases toks r with
      | none => rfl
      | some v => simp
end Go.Fo
