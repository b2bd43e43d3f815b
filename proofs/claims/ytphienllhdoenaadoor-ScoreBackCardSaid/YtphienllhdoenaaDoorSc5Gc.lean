/- Lines of steps: a step's line, and all of them. -/
import Derived.Test.YtphienllhdoenaaDoorSc5Gb
namespace Go.Fo
set_option maxRecDepth 6000
/-- a step with nothing but what its kind names -/
def bareS (s : Step) : Prop := (s.1 = 1 ∨ s.2.2.1 = []) ∧ (s.1 = 2 ∨ s.2.1 = 0) ∧ (s.1 = 3 ∨ s.2.2.2.1 = [] ∧ s.2.2.2.2.1 = []) ∧ (s.1 = 4 ∨ s.2.2.2.2.2 = [])
instance (s : Step) : Decidable (bareS s) := by unfold bareS; infer_instance
def tSamples : List UInt8 := [115, 97, 109, 112, 108, 101, 115]
def tCall : List UInt8 := [99, 97, 108, 108, 32]
def tEnds : List UInt8 := [101, 110, 100, 115, 32]
def tInterval : List UInt8 := [105, 110, 116, 101, 114, 118, 97, 108]
def toldT (s : Step) : Option (List UInt8) :=
  if bareS s then
    if s.1 = 1 then some (tSamples ++ s.2.2.1.flatMap smpT)
    else if s.1 = 2 then (if 0 ≤ s.2.1 ∧ s.2.1 ≤ 99 then some (tCall ++ dgs s.2.1.toNat) else none)
    else if s.1 = 3 then some (tEnds ++ (hexT s.2.2.2.1 ++ 32 :: hexT s.2.2.2.2.1))
    else if s.1 = 4 then (toks s.2.2.2.2.2).map (tInterval ++ ·) else none
  else none
def okIn (s : Step) : Prop := (∀ x ∈ s.2.2.1, -32768 ≤ x ∧ x ≤ 32767) ∧ s.2.2.1.length ≤ 70000 ∧ (∀ x ∈ s.2.2.2.1, 0 ≤ x ∧ x < 256) ∧ s.2.2.2.1.length ≤ 70000 ∧ (∀ x ∈ s.2.2.2.2.1, 0 ≤ x ∧ x < 256) ∧ s.2.2.2.2.1.length ≤ 70000 ∧ (∀ x ∈ s.2.2.2.2.2, 0 ≤ x.2.2.2 ∧ x.2.2.2 < 4294967296) ∧ s.2.2.2.2.2.length ≤ 70000
theorem hexT_len (b : List Int) : (hexT b).length ≤ 2 * b.length + 1 := by
  unfold hexT
  split
  · simp
  · rw [fm_len]; omega
theorem toldT_len {s : Step} (h : okIn s) {t : List UInt8} (ht : toldT s = some t) : t.length ≤ 4000000 := by
  obtain ⟨h1, h2, h3, h4, h5, h6, h7, h8⟩ := h
  unfold toldT at ht
  split at ht
  · split at ht
    · have := fm7 _ h1
      cases ht
      rw [List.length_append]; show 7 + _ ≤ _; omega
    · split at ht
      · split at ht
        · have := dg10 (n := s.2.1.toNat) (by omega)
          cases ht
          rw [List.length_append]; show 5 + _ ≤ _; omega
        · cases ht
      · split at ht
        · have a1 := hexT_len s.2.2.2.1
          have a2 := hexT_len s.2.2.2.2.1
          cases ht
          rw [List.length_append, List.length_append, List.length_cons]; show 5 + _ ≤ _; omega
        · split at ht
          · rw [Option.map_eq_some_iff] at ht
            obtain ⟨u, hu, rfl⟩ := ht
            have := toks_len h7 hu
            rw [List.length_append]; show 8 + _ ≤ _; omega
          · cases ht
  · cases ht
theorem len0 {α : Type} (l : List α) : ((l.length : Int) == 0) = decide (l = []) := by
  cases l with
  | nil => rfl
  | cons x l =>
    rw [decide_eq_false (by simp)]
    exact beq_eq_false_iff_ne.2 (by simp only [List.length_cons]; omega)
theorem bare_w (K : Nat) (k n : Int) (a b c : List Int) (d : List Slot) (hb : b.length ≤ 70000) (hc : c.length ≤ 70000) : score_bare K k n a b c d = some (decide (bareS (k, (n, (a, (b, (c, d))))))) := by
  unfold score_bare
  dsimp only
  rw [kw_i64 (by omega) (by omega), len0, len0]
  have e : (((b.length : Int) + (c.length : Int)) == 0) = decide (b = [] ∧ c = []) := by
    by_cases h : b = [] ∧ c = []
    · rw [decide_eq_true h, h.1, h.2]; rfl
    · rw [decide_eq_false h]
      refine beq_eq_false_iff_ne.2 (fun hh => h ⟨List.eq_nil_of_length_eq_zero (by omega), List.eq_nil_of_length_eq_zero (by omega)⟩)
  rw [e]
  congr 1
  unfold bareS
  dsimp only
  by_cases p1 : k = 1 <;> by_cases p2 : k = 2 <;> by_cases p3 : k = 3 <;> by_cases p4 : k = 4 <;> by_cases q1 : a = [] <;> by_cases q2 : n = 0 <;> by_cases q3 : b = [] ∧ c = [] <;> by_cases q4 : d = [] <;> simp [p1, p2, p3, p4, q1, q2, q3, q4]
theorem told_w (K : Nat) (hK : 70100 ≤ K) (s : Step) (h : okIn s) : ∃ t, score_told K s.1 s.2.1 s.2.2.1 s.2.2.2.1 s.2.2.2.2.1 s.2.2.2.2.2 = some (t, (toldT s).isSome) ∧ ∀ u, toldT s = some u → t = ofl u := by
  obtain ⟨k, n, a, b, c, d⟩ := s
  obtain ⟨h1, h2, h3, h4, h5, h6, h7, h8⟩ := h
  dsimp only at h1 h2 h3 h4 h5 h6 h7 h8 ⊢
  have hbare := bare_w K k n a b c d h4 h6
  have htd : bareS (k, (n, (a, (b, (c, d))))) → toldT (k, (n, (a, (b, (c, d))))) = if k = 1 then some (tSamples ++ a.flatMap smpT) else if k = 2 then (if 0 ≤ n ∧ n ≤ 99 then some (tCall ++ dgs n.toNat) else none) else if k = 3 then some (tEnds ++ (hexT b ++ 32 :: hexT c)) else if k = 4 then (toks d).map (tInterval ++ ·) else none := fun hb => if_pos hb
  have hno : ¬ bareS (k, (n, (a, (b, (c, d))))) → toldT (k, (n, (a, (b, (c, d))))) = none := fun hb => if_neg hb
  have fin : ∀ (acc : List UInt8) (hh : acc.length ≤ 70368744177664) (z : Option ((List Int) ⊕ (ByteArray × Bool))), z = some (.inl (ints acc)) → (∀ u, toldT (k, (n, (a, (b, (c, d))))) = some u → acc = u) → ((toldT (k, (n, (a, (b, (c, d)))))).isSome = (bif (bif decide (bareS (k, (n, (a, (b, (c, d)))))) then decide (n ≥ 0) else false) then decide (n ≤ 99) else false)) →
      ∃ t, (z.bind fun z => match z with
        | .inl x102 => (strings_Builder_String K x102).bind fun r103 => (score_bare K k n a b c d).bind fun r104 => some (r103, (bif (bif r104 then (decide (n ≥ 0)) else false) then (decide (n ≤ 99)) else false))
        | .inr r => some r) = some (t, (toldT (k, (n, (a, (b, (c, d)))))).isSome) ∧ ∀ u, toldT (k, (n, (a, (b, (c, d))))) = some u → t = ofl u := by
    intro acc hh z hz hu he
    subst hz
    refine ⟨ofl acc, ?_, fun u hu' => by rw [hu u hu']⟩
    refine bnd_eq rfl ?_
    refine bnd_eq (bs_w K acc hh) ?_
    refine bnd_eq hbare ?_
    rw [he]
  by_cases k1 : k = 1
  · have hl := fm7 a h1
    have W := ws_w K tSamples [] (by decide)
    have Lp := tsmp_loop K (by omega) a k n b c d h1 h2 a 0 (K - a.length - 1) tSamples rfl (by show 7 + _ ≤ _; omega)
    rw [show a.length + (K - a.length - 1) + 1 = K by omega] at Lp
    refine fin (tSamples ++ a.flatMap smpT) (by rw [List.length_append]; show 7 + _ ≤ _; omega) _ (bif_eq_t (beq_iff_eq.2 k1) (bnd_eq W (bnd_eq Lp rfl))) ?_ ?_
    · intro u hu
      by_cases hb : bareS (k, (n, (a, (b, (c, d)))))
      · rw [htd hb, if_pos k1] at hu; exact Option.some.inj hu
      · rw [hno hb] at hu; cases hu
    · by_cases hb : bareS (k, (n, (a, (b, (c, d)))))
      · rw [htd hb, if_pos k1, decide_eq_true hb]
        have : n = 0 := by
          unfold bareS at hb
          rcases hb.2.1 with h | h
          · exact absurd h (by dsimp only; omega)
          · exact h
        subst this; rfl
      · rw [hno hb, decide_eq_false hb]; rfl
  by_cases k2 : k = 2
  · have hb0 : 0 ≤ imin (imax n 0) 99 ∧ imin (imax n 0) 99 ≤ 99 := by unfold imin imax; split <;> split <;> omega
    have dl := dg10 (n := (imin (imax n 0) 99).toNat) (by omega)
    have N := num10 K (by omega) hb0.1 (by omega)
    have W := ws_w K (tCall ++ dgs (imin (imax n 0) 99).toNat) [] (by rw [List.length_append]; show 0 + (5 + _) ≤ _; omega)
    refine fin (tCall ++ dgs (imin (imax n 0) 99).toNat) (by rw [List.length_append]; show 5 + _ ≤ _; omega) _ (bif_eq_f (beq_eq_false_iff_ne.2 k1) (bif_eq_t (beq_iff_eq.2 k2) (bnd_eq N ?_))) ?_ ?_
    · have e : (⟨#[99, 97, 108, 108, 32]⟩ : ByteArray) = ofl tCall := rfl
      dsimp only
      rw [e, ofl_app]
      refine gd_eq (by rw [ofl_size, ofl_size]; show 5 + _ ≤ _; omega) ?_
      exact bnd_eq W rfl
    · intro u hu
      by_cases hb : bareS (k, (n, (a, (b, (c, d)))))
      · rw [htd hb, if_neg k1, if_pos k2] at hu
        split at hu
        · rename_i hn
          have : imin (imax n 0) 99 = n := by unfold imin imax; split <;> split <;> omega
          rw [this]; exact Option.some.inj hu
        · cases hu
      · rw [hno hb] at hu; cases hu
    · by_cases hb : bareS (k, (n, (a, (b, (c, d)))))
      · rw [htd hb, if_neg k1, if_pos k2, decide_eq_true hb]
        by_cases g1 : n ≥ 0
        · by_cases g2 : n ≤ 99
          · rw [if_pos ⟨g1, g2⟩, decide_eq_true g1, decide_eq_true g2]; rfl
          · rw [if_neg (fun h => g2 h.2), decide_eq_true g1, decide_eq_false g2]; rfl
        · rw [if_neg (fun h => g1 h.1), decide_eq_false g1]; rfl
      · rw [hno hb, decide_eq_false hb]; rfl
  by_cases k3 : k = 3
  · have l1 := hexT_len b
    have l2 := hexT_len c
    have H1 := hexT_w K b h3 (by omega) (by omega)
    have H2 := hexT_w K c h5 (by omega) (by omega)
    have W := ws_w K (tEnds ++ (hexT b ++ 32 :: hexT c)) [] (by rw [List.length_append, List.length_append, List.length_cons]; show 0 + (5 + _) ≤ _; omega)
    refine fin (tEnds ++ (hexT b ++ 32 :: hexT c)) (by rw [List.length_append, List.length_append, List.length_cons]; show 5 + _ ≤ _; omega) _ (bif_eq_f (beq_eq_false_iff_ne.2 k1) (bif_eq_f (beq_eq_false_iff_ne.2 k2) (bif_eq_t (beq_iff_eq.2 k3) (bnd_eq H1 ?_)))) ?_ ?_
    · have e : (⟨#[101, 110, 100, 115, 32]⟩ : ByteArray) = ofl tEnds := rfl
      have e2 : (⟨#[32]⟩ : ByteArray) = ofl [32] := rfl
      dsimp only
      rw [e, e2, ofl_app, ofl_app]
      refine gd_eq (by rw [ofl_size, ofl_size]; show 5 + _ ≤ _; omega) ?_
      refine gd_eq (by rw [ofl_size, ofl_size, List.length_append]; show 5 + _ + 1 ≤ _; omega) ?_
      refine bnd_eq H2 ?_
      rw [ofl_app]
      refine gd_eq (by rw [ofl_size, ofl_size, List.length_append, List.length_append]; show 5 + _ + 1 + _ ≤ _; omega) ?_
      have e3 : tEnds ++ hexT b ++ [32] ++ hexT c = tEnds ++ (hexT b ++ 32 :: hexT c) := by simp
      rw [e3]
      exact bnd_eq W rfl
    · intro u hu
      by_cases hb : bareS (k, (n, (a, (b, (c, d)))))
      · rw [htd hb, if_neg k1, if_neg k2, if_pos k3] at hu; exact Option.some.inj hu
      · rw [hno hb] at hu; cases hu
    · by_cases hb : bareS (k, (n, (a, (b, (c, d)))))
      · rw [htd hb, if_neg k1, if_neg k2, if_pos k3, decide_eq_true hb]
        have : n = 0 := by
          unfold bareS at hb
          rcases hb.2.1 with h | h
          · exact absurd h k2
          · exact h
        subst this; rfl
      · rw [hno hb, decide_eq_false hb]; rfl
  by_cases k4 : k = 4
  · have W := ws_w K tInterval [] (by decide)
    have Lp := ttok_loop K (by omega) d k n a b c h7 h8 d 0 (K - d.length - 1) tInterval rfl (by show 8 + _ ≤ _; omega)
    rw [show d.length + (K - d.length - 1) + 1 = K by omega] at Lp
    cases ht : toks d with
    | none =>
      rw [ht] at Lp
      have hn : toldT (k, (n, (a, (b, (c, d))))) = none := by
        by_cases hb : bareS (k, (n, (a, (b, (c, d)))))
        · rw [htd hb, if_neg k1, if_neg k2, if_neg k3, if_pos k4, ht]; rfl
        · exact hno hb
      rw [hn]
      exact ⟨⟨#[]⟩, bnd_eq (bif_eq_f (beq_eq_false_iff_ne.2 k1) (bif_eq_f (beq_eq_false_iff_ne.2 k2) (bif_eq_f (beq_eq_false_iff_ne.2 k3) (bif_eq_t (beq_iff_eq.2 k4) (bnd_eq W (bnd_eq Lp rfl)))))) rfl, fun u hu => by cases hu⟩
    | some t =>
      rw [ht] at Lp
      have tl := toks_len h7 ht
      refine fin (tInterval ++ t) (by rw [List.length_append]; show 8 + _ ≤ _; omega) _ (bif_eq_f (beq_eq_false_iff_ne.2 k1) (bif_eq_f (beq_eq_false_iff_ne.2 k2) (bif_eq_f (beq_eq_false_iff_ne.2 k3) (bif_eq_t (beq_iff_eq.2 k4) (bnd_eq W (bnd_eq Lp rfl)))))) ?_ ?_
      · intro u hu
        by_cases hb : bareS (k, (n, (a, (b, (c, d)))))
        · rw [htd hb, if_neg k1, if_neg k2, if_neg k3, if_pos k4, ht] at hu; exact Option.some.inj hu
        · rw [hno hb] at hu; cases hu
      · by_cases hb : bareS (k, (n, (a, (b, (c, d)))))
        · rw [htd hb, if_neg k1, if_neg k2, if_neg k3, if_pos k4, ht, decide_eq_true hb]
          have : n = 0 := by
            unfold bareS at hb
            rcases hb.2.1 with h | h
            · exact absurd h k2
            · exact h
          subst this; rfl
        · rw [hno hb, decide_eq_false hb]; rfl
  · have hn : toldT (k, (n, (a, (b, (c, d))))) = none := by
      by_cases hb : bareS (k, (n, (a, (b, (c, d)))))
      · rw [htd hb, if_neg k1, if_neg k2, if_neg k3, if_neg k4]
      · exact hno hb
    rw [hn]
    exact ⟨⟨#[]⟩, bnd_eq (bif_eq_f (beq_eq_false_iff_ne.2 k1) (bif_eq_f (beq_eq_false_iff_ne.2 k2) (bif_eq_f (beq_eq_false_iff_ne.2 k3) (bif_eq_f (beq_eq_false_iff_ne.2 k4) rfl)))) rfl, fun u hu => by cases hu⟩
theorem gt0 {α : Type} (l : List α) : decide ((l.length : Int) > 0) = !decide (l = []) := by
  cases l with
  | nil => rfl
  | cons x l =>
    rw [decide_eq_false (p := x :: l = []) (by simp)]
    exact decide_eq_true (by simp only [List.length_cons]; omega)
def prints : List Step → Option (List UInt8)
  | [] => some []
  | s :: r => match toldT s with
    | none => none
    | some t => (prints r).map fun u => t ++ 10 :: u
theorem prints_cons (s : Step) (r : List Step) : prints (s :: r) = match toldT s with | none => none | some t => (prints r).map fun u => t ++ 10 :: u := rfl
theorem prints_len : ∀ {r : List Step} {t : List UInt8}, (∀ s ∈ r, okIn s) → prints r = some t → t.length ≤ 4000001 * r.length
  | [], t, _, h => by cases h; simp
  | s :: r, t, hm, h => by
    rw [prints_cons] at h
    split at h
    · cases h
    · rename_i u hu
      rw [Option.map_eq_some_iff] at h
      obtain ⟨v, h1, rfl⟩ := h
      have h2 := toldT_len (hm s (List.mem_cons_self ..)) hu
      have h3 := prints_len (fun x hx => hm x (List.mem_cons_of_mem _ hx)) h1
      simp only [List.length_cons, List.length_append]; omega
abbrev KS : Kd := .pair (.int .i64) (.pair (.int .i64) (.pair (.slice (.int .i16)) (.pair (.slice (.int .u8)) (.pair (.slice (.int .u8)) (.slice (.pair (.int .i64) (.pair (.int .i64) (.pair (.int .i64) (.int .u32)))))))))
theorem print_loop (K : Nat) (hK : 70100 ≤ K) (l : List Step) (hl : ∀ s ∈ l, okIn s) (hn : l.length ≤ 4096) : ∀ (r : List Step) (i e : Nat) (acc : List UInt8), l.drop i = r → acc.length + 4000001 * r.length ≤ 20000000000 →
    score_Print.l0 K l (l.length : Int) (r.length + e + 1) (i : Int) (ints acc) = some (match prints r with | some u => .inl (ints (acc ++ u)) | none => .inr (⟨#[]⟩, 310))
  | [], i, e, acc, h, ha => by
    have hi : l.length ≤ i := List.drop_eq_nil_iff.1 h
    show score_Print.r0 K l (l.length : Int) (score_Print.l0 K l (l.length : Int) (0 + e)) (i : Int) (ints acc) = _
    exact bif_eq_f (decide_eq_false (by omega)) (by simp [prints])
  | s :: r, i, e, acc, h, ha => by
    have hi := drop_len h
    have hm := hl s (List.mem_of_mem_drop (by rw [h]; exact List.mem_cons_self ..))
    show score_Print.r0 K l (l.length : Int) (score_Print.l0 K l (l.length : Int) (r.length + 1 + e)) (i : Int) (ints acc) = _
    have e1 : KS.nth l (Int.toNat (i : Int)) = s := nth_drop (k := KS) h
    rw [List.length_cons] at ha
    refine bif_eq_t (decide_eq_true (by omega)) ?_
    refine gd_eq ⟨by omega, by omega⟩ ?_
    obtain ⟨t, ht, hu⟩ := told_w K hK s hm
    rw [← e1] at ht
    refine bnd_eq ht ?_
    rw [e1, prints_cons]
    cases hs : toldT s with
    | none => rfl
    | some u =>
      have := hu u hs
      subst this
      have hsl := toldT_len hm hs
      refine bif_eq_f rfl ?_
      have e2 : (⟨#[10]⟩ : ByteArray) = ofl [10] := rfl
      rw [e2, ofl_app]
      refine gd_eq (by rw [ofl_size, ofl_size]; simp only [List.length_cons, List.length_nil]; omega) ?_
      refine bnd_eq (ws_w K (u ++ [10]) acc (by rw [List.length_append]; simp only [List.length_cons, List.length_nil]; omega)) ?_
      rw [kw_i64 (by omega) (by omega), show r.length + 1 + e = r.length + e + 1 by omega, show (i : Int) + 1 = ((i + 1 : Nat) : Int) by omega]
      refine (print_loop K hK l hl hn r (i + 1) e (acc ++ (u ++ [10])) (drop_tail h) (by simp only [List.length_append, List.length_cons, List.length_nil]; omega)).trans ?_
      cases prints r with
      | none => rfl
      | some v => simp
def printV (l : List Step) : ByteArray × Int := match prints l with | some u => if u.length > 65536 then (⟨#[]⟩, 2) else (ofl u, 0) | none => (⟨#[]⟩, 310)
theorem print_w (K : Nat) (hK : 70100 ≤ K) (l : List Step) (hl : ∀ s ∈ l, okIn s) (hn : l.length ≤ 4096) : score_Print K l = some (printV l) := by
  have Lp := print_loop K hK l hl hn l 0 (K - l.length - 1) [] rfl (by simp; omega)
  rw [show l.length + (K - l.length - 1) + 1 = K by omega] at Lp
  refine bif_eq_f (decide_eq_false (by omega)) ?_
  refine bnd_eq Lp ?_
  unfold printV
  cases hp : prints l with
  | none => rfl
  | some u =>
    have hul := prints_len hl hp
    dsimp only [List.nil_append]
    refine bnd_eq (x := (u.length : Int)) (by
      show some ((ints u).length : Int) = _
      rw [ints_len]) ?_
    by_cases h : u.length > 65536
    · rw [if_pos h]
      exact bif_eq_t (decide_eq_true (by omega)) rfl
    · rw [if_neg h]
      refine bif_eq_f (decide_eq_false (by omega)) ?_
      exact bnd_eq (bs_w K u (by omega)) rfl
end Go.Fo
