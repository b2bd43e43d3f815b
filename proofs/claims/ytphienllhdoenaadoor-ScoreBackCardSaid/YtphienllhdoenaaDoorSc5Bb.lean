/- A told line, read again. -/
import Derived.Test.YtphienllhdoenaaDoorSc5Ba
namespace Go.Fo
set_option maxRecDepth 6000
theorem cutL_words (c : UInt8) : ∀ (ws : List (List UInt8)) (p : List UInt8), c ∉ p → (∀ w ∈ ws, c ∉ w) → cutL c (p ++ ws.flatMap (fun w => c :: w)) = p :: ws
  | [], p, hp, _ => by
    rw [List.flatMap_nil, List.append_nil]; exact cutL_all c p hp
  | w :: ws, p, hp, hw => by
    rw [List.flatMap_cons, List.cons_append, cutL_no c p _ hp, cutL_words c ws w (hw w (List.mem_cons_self ..)) (fun x hx => hw x (List.mem_cons_of_mem _ hx))]
theorem dch_nat {d : Nat} (h : d < 10) : (dch d).toNat = 48 + d := by
  unfold dch
  rw [UInt8.toNat_ofNat']
  omega
theorem dch_dig {d : Nat} (h : d < 10) : dig (dch d) = true := by
  unfold dig
  rw [dch_nat h]
  simp; omega
theorem dgs_rec {p : Nat → List UInt8 → Prop} (h1 : ∀ n, n < 10 → p n [dch n]) (h2 : ∀ n, ¬ n < 10 → p (n / 10) (dgs (n / 10)) → p n (dgs (n / 10) ++ [dch (n % 10)])) : ∀ n, p n (dgs n) := by
  intro n
  induction n using Nat.strongRecOn with
  | _ n ih =>
    by_cases h : n < 10
    · rw [dgs_lt h]; exact h1 n h
    · rw [dgs_ge h]; exact h2 n h (ih (n / 10) (by omega))
theorem dgs_dig : ∀ n, (dgs n).all dig = true := dgs_rec (p := fun _ l => l.all dig = true) (fun n h => by simp [dch_dig h]) (fun n _ ih => by
  rw [List.all_append, ih]; simp [dch_dig (Nat.mod_lt n (by decide : 0 < 10))])
theorem dgs_val : ∀ n, val (dgs n) = (n : Int) := dgs_rec (p := fun n l => val l = (n : Int)) (fun n h => by
  unfold val
  show 10 * 0 + (((dch n).toNat : Int) - 48) = _
  rw [dch_nat h]; omega) (fun n h ih => by
  rw [val_snoc, ih, dch_nat (Nat.mod_lt n (by decide : 0 < 10))]; omega)
theorem dgs_head : ∀ n, 1 ≤ n → ∃ c l, dgs n = c :: l ∧ c ≠ 48 := dgs_rec (p := fun n l' => 1 ≤ n → ∃ c l, l' = c :: l ∧ c ≠ 48) (fun n h h1 => ⟨dch n, [], rfl, fun e => by
  have := congrArg UInt8.toNat e
  rw [dch_nat h] at this
  have e2 : (48 : UInt8).toNat = 48 := rfl
  rw [e2] at this; omega⟩) (fun n h ih h1 => by
  obtain ⟨c, l, e, hc⟩ := ih (by omega)
  exact ⟨c, l ++ [dch (n % 10)], by rw [e]; rfl, hc⟩)
theorem dgs_no {n : Nat} {c : UInt8} (hc : dig c = false) : c ∉ dgs n := fun h => by
  have := List.all_eq_true.1 (dgs_dig n) c h
  rw [hc] at this; cases this
theorem sb0 (c : UInt8) (l : List UInt8) : sbyte (ofl (c :: l)) 0 = (c.toNat : Int) := by
  rw [sbyte_at _ 0 (by rw [ofl_size]; simp)]
  simp only [bl_ofl, List.getElem_cons_zero]
theorem num_dgs {n : Nat} {m : Int} (h : n < 10000000000) (hm : (n : Int) ≤ m) : num (ofl (dgs n)) m = some (n : Int) := by
  have hl := dg10 h
  unfold num
  rw [bl_ofl, dgs_val, ofl_size]
  refine if_pos ⟨⟨hl.1, hl.2, fun hh => ?_⟩, dgs_dig n, hm⟩
  have h10 : ¬ n < 10 := fun h1 => by
    rw [dgs_lt h1] at hh; simp at hh
  obtain ⟨c, l, e, hc⟩ := dgs_head n (by omega)
  rw [e, sb0] at hh
  exact hc (UInt8.toNat_inj.1 (Int.ofNat_inj.1 hh.2))
/-- a sample's word -/
def sT (x : Int) : List UInt8 := if x < 0 then 45 :: dgs (-x).toNat else dgs x.toNat
theorem fm_sT (l : List Int) : l.flatMap smpT = (l.map sT).flatMap (fun w => 32 :: w) := by
  rw [List.flatMap_map]; rfl
theorem sT_no {x : Int} {c : UInt8} (hc : dig c = false) (h2 : c ≠ 45) : c ∉ sT x := by
  unfold sT
  split
  · intro h
    rcases List.mem_cons.1 h with h | h
    · exact h2 h
    · exact dgs_no hc h
  · exact dgs_no hc
theorem smp_sT {x : Int} (h : -32768 ≤ x ∧ x ≤ 32767) : smp (ofl (sT x)) = some x := by
  unfold sT
  by_cases h0 : x < 0
  · rw [if_pos h0]
    have hm : minus (ofl (45 :: dgs (-x).toNat)) = true := by
      unfold minus
      rw [ofl_size, decide_eq_true (by simp only [List.length_cons]; omega), sb0]; rfl
    have he : (ofl (45 :: dgs (-x).toNat)).extract 1 (ofl (45 :: dgs (-x).toNat)).size = ofl (dgs (-x).toNat) := by
      rw [bl_ext, bl_ofl, ofl_size]
      congr 1
      simp
    unfold smp
    rw [hm, he, num_dgs (by omega) (by omega)]
    show some (-(((-x).toNat : Nat) : Int)) = some x
    congr 1; omega
  · rw [if_neg h0]
    have hm : minus (ofl (dgs x.toNat)) = false := by
      have hl := dg10 (n := x.toNat) (by omega)
      obtain ⟨c, l, e⟩ : ∃ c l, dgs x.toNat = c :: l := by
        cases h : dgs x.toNat with
        | nil => rw [h] at hl; simp at hl
        | cons c l => exact ⟨c, l, rfl⟩
      have hc := List.all_eq_true.1 (dgs_dig x.toNat) c (by rw [e]; exact List.mem_cons_self ..)
      unfold minus
      rw [ofl_size, e, decide_eq_true (by simp only [List.length_cons]; omega), sb0]
      have := dig_b hc
      show ((c.toNat : Int) == 45) = false
      exact beq_eq_false_iff_ne.2 (by omega)
    unfold smp
    rw [hm, num_dgs (by omega) (by omega)]
    show some ((x.toNat : Nat) : Int) = some x
    congr 1; omega
theorem hexch_fin : ((List.range 16).all fun d => hexd ((hexch d).toNat : Int) == some (d : Int) && (hexch d != 32) && (hexch d != 10) && (hexch d != 45)) = true := by kernel_rfl
theorem hexch_w {d : Int} (h0 : 0 ≤ d) (h1 : d < 16) : hexd ((hexch d.toNat).toNat : Int) = some d ∧ hexch d.toNat ≠ 32 ∧ hexch d.toNat ≠ 10 := by
  have h := List.all_eq_true.1 hexch_fin d.toNat (List.mem_range.2 (by omega))
  simp only [Bool.and_eq_true, beq_iff_eq, bne_iff_ne, ne_eq] at h
  refine ⟨?_, h.1.1.2, h.1.2⟩
  rw [h.1.1.1]; congr 1; omega
theorem hexs_fm : ∀ (b : List Int), (∀ x ∈ b, 0 ≤ x ∧ x < 256) → hexs (b.flatMap hx2) = some b
  | [], _ => rfl
  | x :: b, h => by
    have hx := h x (List.mem_cons_self ..)
    have ih := hexs_fm b (fun y hy => h y (List.mem_cons_of_mem _ hy))
    have h1 := (hexch_w (d := x / 16) (by omega) (by omega)).1
    have h2 := (hexch_w (d := x % 16) (by omega) (by omega)).1
    rw [List.flatMap_cons]
    show (match hexd ((hexch (x / 16).toNat).toNat : Int), hexd ((hexch (x % 16).toNat).toNat : Int) with
      | some x, some y => (hexs (b.flatMap hx2)).map ((16 * x + y) :: ·)
      | _, _ => none) = _
    rw [h1, h2, ih]
    show some ((16 * (x / 16) + x % 16) :: b) = _
    congr 2; omega
theorem hexT_no (b : List Int) (h : ∀ x ∈ b, 0 ≤ x ∧ x < 256) : (32 : UInt8) ∉ hexT b ∧ (10 : UInt8) ∉ hexT b := by
  unfold hexT
  split
  · decide
  · constructor
    · intro hm
      obtain ⟨x, hx, hm⟩ := List.mem_flatMap.1 hm
      have hb := h x hx
      have h1 := (hexch_w (d := x / 16) (by omega) (by omega)).2.1
      have h2 := (hexch_w (d := x % 16) (by omega) (by omega)).2.1
      unfold hx2 at hm
      rcases List.mem_cons.1 hm with hm | hm
      · exact h1 hm.symm
      · exact h2 (List.mem_singleton.1 hm).symm
    · intro hm
      obtain ⟨x, hx, hm⟩ := List.mem_flatMap.1 hm
      have hb := h x hx
      have h1 := (hexch_w (d := x / 16) (by omega) (by omega)).2.2
      have h2 := (hexch_w (d := x % 16) (by omega) (by omega)).2.2
      unfold hx2 at hm
      rcases List.mem_cons.1 hm with hm | hm
      · exact h1 hm.symm
      · exact h2 (List.mem_singleton.1 hm).symm
theorem hx_hexT (b : List Int) (h : ∀ x ∈ b, 0 ≤ x ∧ x < 256) : hx (ofl (hexT b)) = some b := by
  unfold hexT
  by_cases hb : b = []
  · subst hb
    rw [if_pos rfl]
    unfold hx
    rw [beqs_bl]; rfl
  · rw [if_neg hb]
    have h0 : 0 < b.length := List.length_pos_iff.2 hb
    unfold hx
    have h1 : ¬ beqs (ofl (b.flatMap hx2)) ⟨#[45]⟩ = true := by
      intro e
      have := beqs_ofl e
      rw [bl_ofl] at this
      have := congrArg List.length this
      rw [fm_len] at this
      have e2 : (bl ⟨#[45]⟩).length = 1 := rfl
      omega
    rw [if_neg h1, if_neg (by rw [ofl_size, fm_len]; omega), bl_ofl]
    exact hexs_fm b h
theorem beqs_lit (l : List UInt8) (c : UInt8) : beqs (ofl l) ⟨#[c]⟩ = (l == [c]) := by rw [beqs_bl, bl_ofl]; rfl
theorem tok_no {s : Slot} {t : List UInt8} (h : tokT s = some t) : (32 : UInt8) ∉ t ∧ (10 : UInt8) ∉ t := by
  unfold tokT at h
  split at h
  · cases h; decide
  · split at h
    · cases h; decide
    · split at h
      · cases h; decide
      · split at h
        · cases h
          constructor
          · intro hm
            simp only [List.mem_append, List.mem_cons] at hm
            rcases hm with hm | hm | hm | hm | hm | hm | hm
            · exact dgs_no (by decide) hm
            · revert hm; decide
            · exact dgs_no (by decide) hm
            · revert hm; decide
            · exact dgs_no (by decide) hm
            · revert hm; decide
            · exact dgs_no (by decide) hm
          · intro hm
            simp only [List.mem_append, List.mem_cons] at hm
            rcases hm with hm | hm | hm | hm | hm | hm | hm
            · exact dgs_no (by decide) hm
            · revert hm; decide
            · exact dgs_no (by decide) hm
            · revert hm; decide
            · exact dgs_no (by decide) hm
            · revert hm; decide
            · exact dgs_no (by decide) hm
        · cases h
theorem slt_tok {s : Slot} (hm : 0 ≤ s.2.2.2 ∧ s.2.2.2 < 4294967296) {t : List UInt8} (h : tokT s = some t) : slt (ofl t) = some s := by
  obtain ⟨a, b, c, d⟩ := s
  dsimp only at hm
  unfold tokT at h
  by_cases h1 : (a, (b, (c, d))) = ((0, (0, (0, 0))) : Slot)
  · rw [if_pos h1] at h; cases h; rw [h1]
    unfold slt; rw [beqs_lit]; rfl
  rw [if_neg h1] at h
  by_cases h2 : (a, (b, (c, d))) = ((1, (0, (0, 0))) : Slot)
  · rw [if_pos h2] at h; cases h; rw [h2]
    unfold slt; rw [beqs_lit, beqs_lit]; rfl
  rw [if_neg h2] at h
  by_cases h3 : (a, (b, (c, d))) = ((0, (1, (0, 0))) : Slot)
  · rw [if_pos h3] at h; cases h; rw [h3]
    unfold slt; rw [beqs_lit, beqs_lit, beqs_lit]; rfl
  rw [if_neg h3] at h
  by_cases h4 : n31 a ∧ n31 b ∧ n31 c
  · rw [if_pos h4] at h
    dsimp only at h
    unfold n31 at h4
    have d47 : ∀ n, (47 : UInt8) ∉ dgs n := fun n => dgs_no (by decide)
    have e : cutL 47 (dgs a.toNat ++ 47 :: (dgs b.toNat ++ 47 :: (dgs c.toNat ++ 47 :: dgs d.toNat))) = [dgs a.toNat, dgs b.toNat, dgs c.toNat, dgs d.toNat] := by
      rw [cutL_no 47 _ _ (d47 _), cutL_no 47 _ _ (d47 _), cutL_no 47 _ _ (d47 _), cutL_all 47 _ (d47 _)]
    have hl := dg10 (n := a.toNat) (by omega)
    have nlit : ∀ x : UInt8, ¬ ((dgs a.toNat ++ 47 :: (dgs b.toNat ++ 47 :: (dgs c.toNat ++ 47 :: dgs d.toNat))) == [x]) = true := by
      intro x hx
      have := congrArg List.length (beq_iff_eq.1 hx)
      simp only [List.length_append, List.length_cons, List.length_nil] at this
      omega
    cases h
    unfold slt
    rw [beqs_lit, beqs_lit, beqs_lit, if_neg (nlit _), if_neg (nlit _), if_neg (nlit _), bl_ofl, e]
    show (match numw [ofl (dgs a.toNat), ofl (dgs b.toNat), ofl (dgs c.toNat), ofl (dgs d.toNat)] [2147483647, 2147483647, 2147483647, 4294967295] with
      | some [a, b, c, d] => some (a, (b, (c, d)))
      | _ => none) = _
    unfold numw numw numw numw numw
    rw [num_dgs (by omega) (by omega), num_dgs (by omega) (by omega), num_dgs (by omega) (by omega), num_dgs (by omega) (by omega)]
    show some (((a.toNat : Nat) : Int), (((b.toNat : Nat) : Int), (((c.toNat : Nat) : Int), ((d.toNat : Nat) : Int)))) = _
    rw [Int.toNat_of_nonneg h4.1.1, Int.toNat_of_nonneg h4.2.1.1, Int.toNat_of_nonneg h4.2.2.1, Int.toNat_of_nonneg hm.1]
  · rw [if_neg h4] at h; cases h
theorem toks_words : ∀ {l : List Slot} {u : List UInt8}, (∀ s ∈ l, 0 ≤ s.2.2.2 ∧ s.2.2.2 < 4294967296) → toks l = some u → ∃ ws : List (List UInt8), u = ws.flatMap (fun w => 32 :: w) ∧ (∀ w ∈ ws, (32 : UInt8) ∉ w ∧ (10 : UInt8) ∉ w) ∧ slots (ws.map ofl) = some l ∧ ws.length = l.length
  | [], u, _, h => by
    cases h
    exact ⟨[], rfl, fun w hw => (by cases hw), rfl, rfl⟩
  | s :: l, u, hm, h => by
    rw [toks_cons] at h
    cases ht : tokT s with
    | none => rw [ht] at h; cases h
    | some t =>
      rw [ht] at h
      simp only [Option.map_eq_some_iff] at h
      obtain ⟨v, hv, rfl⟩ := h
      obtain ⟨ws, e1, e2, e3, e4⟩ := toks_words (fun x hx => hm x (List.mem_cons_of_mem _ hx)) hv
      refine ⟨t :: ws, by rw [List.flatMap_cons, ← e1]; rfl, fun w hw => ?_, ?_, by simp [e4]⟩
      · rcases List.mem_cons.1 hw with rfl | hw
        · exact tok_no ht
        · exact e2 w hw
      · show (match slt (ofl t) with | none => none | some v => (slots (ws.map ofl)).map (v :: ·)) = _
        rw [slt_tok (hm s (List.mem_cons_self ..)) ht, e3]; rfl
/-- a step's line, read again -/
theorem line_back (K : Nat) (s : Step) (hs : okIn s) (t : List UInt8) (ht : toldT s = some t) (hl : t.length ≤ 66000) (hK : t.length + 4200 ≤ K) :
    score_reader_steps_2 K ((cutL 32 t).map ofl) false = some (.inr ([s], [], false)) ∧ (10 : UInt8) ∉ t ∧ ∃ c r, t = c :: r ∧ c ≠ 35 := by
  obtain ⟨k, n, a, b, c, d⟩ := s
  obtain ⟨h1, h2, h3, h4, h5, h6, h7, h8⟩ := hs
  dsimp only at h1 h2 h3 h4 h5 h6 h7 h8
  by_cases hnb : ¬ bareS (k, (n, (a, (b, (c, d)))))
  · have : toldT (k, (n, (a, (b, (c, d))))) = none := if_neg hnb
    rw [this] at ht; cases ht
  have hb := Decidable.of_not_not hnb
  have htd : toldT (k, (n, (a, (b, (c, d))))) = if k = 1 then some (tSamples ++ a.flatMap smpT) else if k = 2 then (if 0 ≤ n ∧ n ≤ 99 then some (tCall ++ dgs n.toNat) else none) else if k = 3 then some (tEnds ++ (hexT b ++ 32 :: hexT c)) else if k = 4 then (toks d).map (tInterval ++ ·) else none := if_pos hb
  rw [htd] at ht
  unfold bareS at hb
  dsimp only at hb
  have wsz : ∀ {ws : List (List UInt8)} {p : List UInt8}, t = p ++ ws.flatMap (fun w => 32 :: w) → ∀ x ∈ ws.map ofl, x.size ≤ 66000 ∧ x.size + 4200 ≤ K ∧ ws.length ≤ 66000 ∧ ws.length + 4200 ≤ K := by
    intro ws p e x hx
    obtain ⟨w, hw, rfl⟩ := List.mem_map.1 hx
    have g1 : w.length + 1 ≤ (ws.flatMap (fun w => 32 :: w)).length := by
      have := List.Sublist.length_le (List.sublist_flatten_of_mem (List.mem_map_of_mem (f := fun w => (32 : UInt8) :: w) hw))
      rw [List.flatMap]
      simpa using this
    have g2 : ws.length ≤ (ws.flatMap (fun w => 32 :: w)).length := by
      clear hx hw e g1
      induction ws with
      | nil => simp
      | cons y ws ih => rw [List.flatMap_cons, List.length_append]; simp only [List.length_cons]; omega
    have e2 := congrArg List.length e
    rw [List.length_append] at e2
    rw [ofl_size]; omega
  by_cases k1 : k = 1
  · rw [if_pos k1] at ht
    subst k1
    have hn : n = 0 := by
      rcases hb.2.1 with h | h
      · cases h
      · exact h
    obtain ⟨hb3, hb4⟩ : b = [] ∧ c = [] := by
      rcases hb.2.2.1 with h | h
      · cases h
      · exact h
    have hd : d = [] := by
      rcases hb.2.2.2 with h | h
      · cases h
      · exact h
    subst hn hb3 hb4 hd
    have e0 : t = tSamples ++ (a.map sT).flatMap (fun w => 32 :: w) := by rw [← fm_sT]; exact (Option.some.inj ht).symm
    have hcut : cutL 32 t = tSamples :: a.map sT := by
      rw [e0]
      exact cutL_words 32 _ _ (by decide) (fun w hw => by
        obtain ⟨x, _, rfl⟩ := List.mem_map.1 hw
        exact sT_no (by decide) (by decide))
    have hall : ((a.map sT).map ofl).all (fun w => (smp w).isSome) = true := List.all_eq_true.2 (fun w hw => by
      obtain ⟨v, hv, rfl⟩ := List.mem_map.1 hw
      obtain ⟨x, hx, rfl⟩ := List.mem_map.1 hv
      rw [smp_sT (h1 x hx)]; rfl)
    have hmap : ((a.map sT).map ofl).map (fun w => (smp w).getD 0) = a := by
      rw [List.map_map, List.map_map]
      refine (List.map_congr_left (fun x hx => ?_)).trans (List.map_id a)
      show (smp (ofl (sT x))).getD 0 = x
      rw [smp_sT (h1 x hx)]; rfl
    have hsz := wsz e0
    have hlen : ((a.map sT).map ofl).length = a.length := by rw [List.length_map, List.length_map]
    have hal : a.length ≤ 66000 ∧ a.length + 4200 ≤ K := by
      cases a with
      | nil => simp; omega
      | cons x a' =>
        have := hsz (ofl (sT x)) (by simp)
        rw [List.length_map] at this; exact this.2.2
    have P := samples_w K ((a.map sT).map ofl) (K - a.length - 1) false [] (fun x hx => by have := hsz x hx; omega) (by rw [hlen]; simp; omega)
    rw [hlen, show a.length + (K - a.length - 1) + 1 = K by omega, hall, hmap] at P
    refine ⟨?_, ?_, ?_⟩
    · rw [hcut]
      exact bnd_eq (word_w K _ false) (bif_eq_t (by rw [beqs_bl]; rfl) (bnd_eq P rfl))
    · rw [e0]
      intro hm
      rcases List.mem_append.1 hm with hm | hm
      · revert hm; decide
      · obtain ⟨w, hw, hm⟩ := List.mem_flatMap.1 hm
        obtain ⟨x, _, rfl⟩ := List.mem_map.1 hw
        rcases List.mem_cons.1 hm with hm | hm
        · revert hm; decide
        · exact sT_no (by decide) (by decide) hm
    · rw [e0]; exact ⟨115, _, rfl, by decide⟩
  rw [if_neg k1] at ht
  by_cases k2 : k = 2
  · rw [if_pos k2] at ht
    subst k2
    have ha : a = [] := by
      rcases hb.1 with h | h
      · cases h
      · exact h
    obtain ⟨hb3, hb4⟩ : b = [] ∧ c = [] := by
      rcases hb.2.2.1 with h | h
      · cases h
      · exact h
    have hd : d = [] := by
      rcases hb.2.2.2 with h | h
      · cases h
      · exact h
    subst ha hb3 hb4 hd
    by_cases hnn : ¬ (0 ≤ n ∧ n ≤ 99)
    · rw [if_neg hnn] at ht; cases ht
    have hn := Decidable.of_not_not hnn
    rw [if_pos hn] at ht
    have e0 : t = [99, 97, 108, 108] ++ [dgs n.toNat].flatMap (fun w => 32 :: w) := by
      rw [← Option.some.inj ht]; simp [tCall]
    have hcut : cutL 32 t = [[99, 97, 108, 108], dgs n.toNat] := by
      rw [e0]
      exact cutL_words 32 _ _ (by decide) (fun w hw => by
        rw [List.mem_singleton.1 hw]; exact dgs_no (by decide))
    have hsz := wsz e0
    have P := number_w K 99 [ofl (dgs n.toNat)] false (fun x hx => by have := hsz x hx; omega) (by omega)
    rw [rd_cons, num_dgs (n := n.toNat) (m := 99) (by omega) (by omega)] at P
    refine ⟨?_, ?_, ?_⟩
    · rw [hcut]
      refine bnd_eq (word_w K _ false) (bif_eq_f (by rw [beqs_bl]; rfl) (bif_eq_f (by rw [beqs_bl]; rfl) (bif_eq_t (by rw [beqs_bl]; rfl) (bnd_eq P ?_))))
      show some (Sum.inr ([(2, (((n.toNat : Nat) : Int), ([], ([], ([], [])))))], [], false)) = _
      rw [Int.toNat_of_nonneg hn.1]
    · rw [e0]
      intro hm
      rcases List.mem_append.1 hm with hm | hm
      · revert hm; decide
      · obtain ⟨w, hw, hm⟩ := List.mem_flatMap.1 hm
        rw [List.mem_singleton.1 hw] at hm
        rcases List.mem_cons.1 hm with hm | hm
        · revert hm; decide
        · exact dgs_no (by decide) hm
    · rw [e0]; exact ⟨99, _, rfl, by decide⟩
  rw [if_neg k2] at ht
  have hn : n = 0 := by
    rcases hb.2.1 with h | h
    · exact absurd h k2
    · exact h
  have ha : a = [] := by
    rcases hb.1 with h | h
    · exact absurd h k1
    · exact h
  subst hn ha
  by_cases k3 : k = 3
  · rw [if_pos k3] at ht
    subst k3
    have hd : d = [] := by
      rcases hb.2.2.2 with h | h
      · cases h
      · exact h
    subst hd
    have hx1 := hexT_no b h3
    have hx2' := hexT_no c h5
    have e0 : t = [101, 110, 100, 115] ++ [hexT b, hexT c].flatMap (fun w => 32 :: w) := by
      rw [← Option.some.inj ht]; simp [tEnds]
    have hcut : cutL 32 t = [[101, 110, 100, 115], hexT b, hexT c] := by
      rw [e0]
      exact cutL_words 32 _ _ (by decide) (fun w hw => by
        rcases List.mem_cons.1 hw with rfl | hw
        · exact hx1.1
        · rw [List.mem_singleton.1 hw]; exact hx2'.1)
    have hsz := wsz e0
    obtain ⟨A, B, ws', bad, z1, z2, e1, e2, rfl, rfl, rfl, rfl, e3, e4⟩ := ends_w K [ofl (hexT b), ofl (hexT c)] (fun x hx => by have := hsz x hx; omega)
    obtain ⟨f1, f2, f3, f4⟩ := e3 _ _ b c rfl (hx_hexT b h3) (hx_hexT c h5)
    refine ⟨?_, ?_, ?_⟩
    · rw [hcut]
      have P : score_reader_steps_2 K ([[101, 110, 100, 115], hexT b, hexT c].map ofl) false = some (.inr ([(3, (0, ([], ((unb z1).1, ((unb z2).1, [])))))], (unb z2).2.1, (unb z2).2.2)) := by
        refine bnd_eq (word_w K _ false) (bif_eq_f (by rw [beqs_bl]; rfl) (bif_eq_f (by rw [beqs_bl]; rfl) (bif_eq_f (by rw [beqs_bl]; rfl) (bif_eq_t (by rw [beqs_bl]; rfl) ?_))))
        refine bnd_eq e1 ?_
        rcases z1 with ⟨l1, b1⟩ | ⟨a1, l1, b1⟩
        · refine bnd_eq e2 ?_
          rcases z2 with ⟨l2, b2⟩ | ⟨a2, l2, b2⟩ <;> rfl
        · refine bnd_eq e2 ?_
          rcases z2 with ⟨l2, b2⟩ | ⟨a2, l2, b2⟩ <;> rfl
      rw [f1, f2, f3, f4] at P
      exact P
    · rw [e0]
      intro hm
      rcases List.mem_append.1 hm with hm | hm
      · revert hm; decide
      · obtain ⟨w, hw, hm⟩ := List.mem_flatMap.1 hm
        rcases List.mem_cons.1 hm with hm | hm
        · revert hm; decide
        · rcases List.mem_cons.1 hw with rfl | hw
          · exact hx1.2 hm
          · rw [List.mem_singleton.1 hw] at hm; exact hx2'.2 hm
    · rw [e0]; exact ⟨101, _, rfl, by decide⟩
  rw [if_neg k3] at ht
  obtain ⟨hb3, hb4⟩ : b = [] ∧ c = [] := by
    rcases hb.2.2.1 with h | h
    · exact absurd h k3
    · exact h
  subst hb3 hb4
  by_cases k4n : ¬ k = 4
  · rw [if_neg k4n] at ht; cases ht
  have k4 := Decidable.of_not_not k4n
  rw [if_pos k4, Option.map_eq_some_iff] at ht
  subst k4
  obtain ⟨u, hu, e00⟩ := ht
  obtain ⟨ws, g1, g2, g3, g4⟩ := toks_words h7 hu
  have e0 : t = tInterval ++ ws.flatMap (fun w => 32 :: w) := by rw [← e00, g1]
  have hcut : cutL 32 t = tInterval :: ws := by
    rw [e0]; exact cutL_words 32 _ _ (by decide) (fun w hw => (g2 w hw).1)
  have hsz := wsz e0
  have hwl : ws.length ≤ 66000 ∧ ws.length + 4200 ≤ K := by
    cases ws with
    | nil => simp; omega
    | cons x ws' =>
      have := hsz (ofl x) (by simp)
      exact this.2.2
  obtain ⟨r, P, hrl, hP⟩ := slots_w K (ws.map ofl) (K - ws.length - 1) false [] (fun x hx => by have := hsz x hx; omega) (by rw [List.length_map]; simp; omega)
  rw [List.length_map, show ws.length + (K - ws.length - 1) + 1 = K by omega, g3] at P
  have hr := hP d g3
  rw [List.nil_append] at hr
  subst hr
  refine ⟨?_, ?_, ?_⟩
  · rw [hcut]
    exact bnd_eq (word_w K _ false) (bif_eq_f (by rw [beqs_bl]; rfl) (bif_eq_f (by rw [beqs_bl]; rfl) (bif_eq_f (by rw [beqs_bl]; rfl) (bif_eq_f (by rw [beqs_bl]; rfl) (bnd_eq (bif_eq_t (by rw [beqs_bl]; rfl) (bnd_eq P rfl)) rfl)))))
  · rw [e0]
    intro hm
    rcases List.mem_append.1 hm with hm | hm
    · revert hm; decide
    · obtain ⟨w, hw, hm⟩ := List.mem_flatMap.1 hm
      rcases List.mem_cons.1 hm with hm | hm
      · revert hm; decide
      · exact (g2 w hw).2 hm
  · rw [e0]; exact ⟨105, _, rfl, by decide⟩
end Go.Fo
