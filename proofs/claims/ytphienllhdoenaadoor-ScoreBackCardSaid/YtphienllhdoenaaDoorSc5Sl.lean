/- A line's words: samples, slots, bytes. -/
import Derived.Test.YtphienllhdoenaaDoorSc5Sw
import Derived.KernelRfl
namespace Go.Fo
set_option maxRecDepth 6000
theorem sbyte0 (w : ByteArray) (h : 0 < w.size) (c : UInt8) : beqs (w.extract 0 1) ⟨#[c]⟩ = (sbyte w 0 == (c.toNat : Int)) := by
  rw [beqs_bl, sbyte_at w 0 h, bl_ext, bl_ofl]
  have h2 : (bl w).drop 0 = (bl w)[0]'(by rw [bl_len]; exact h) :: (bl w).drop 1 := bl_drop h
  rw [h2, show (1 - 0) = 1 from rfl, List.take_succ_cons, List.take_zero]
  generalize (bl w)[0]'(by rw [bl_len]; exact h) = x
  show ([x] == [c]) = _
  by_cases e : x = c
  · subst e; simp
  · have : ¬ (x.toNat : Int) = (c.toNat : Int) := fun h => e (UInt8.toNat_inj.1 (Int.ofNat_inj.1 h))
    rw [beq_eq_false_iff_ne.2 this]
    simp [e]
/-- a sample's word -/
def minus (w : ByteArray) : Bool := bif decide ((w.size : Int) > 0) then sbyte w 0 == 45 else false
def smp (w : ByteArray) : Option Int := bif minus w then (num (w.extract 1 w.size) 32768).map (fun n => - n) else num w 32767
theorem smp_b {w : ByteArray} {n : Int} (h : smp w = some n) : -32768 ≤ n ∧ n ≤ 32767 := by
  unfold smp at h
  cases hm : minus w with
  | true =>
    rw [hm, cond_true, Option.map_eq_some_iff] at h
    obtain ⟨a, h1, rfl⟩ := h
    have := num_b h1; omega
  | false =>
    rw [hm, cond_false] at h
    have := num_b h; omega
theorem ext_size (w : ByteArray) (a b : Nat) : (w.extract a b).size ≤ w.size := by
  rw [← bl_len, bl_ext, bl_ofl, List.length_take, List.length_drop, bl_len]; omega
theorem cutp_w (K : Nat) (w : ByteArray) : strings_CutPrefix K w ⟨#[45]⟩ = some (bif minus w then (w.extract 1 w.size, true) else (w, false)) := by
  have e1 : ((⟨#[45]⟩ : ByteArray).size : Int) = 1 := rfl
  have hp : internal_stringslite_HasPrefix K w ⟨#[45]⟩ = some (minus w) := by
    unfold internal_stringslite_HasPrefix
    dsimp only
    rw [e1]
    refine gd_eq ⟨fun _ => by omega, fun h => by simpa using h⟩ ?_
    unfold minus
    by_cases h : 0 < w.size
    · rw [decide_eq_true (p := (w.size : Int) ≥ 1) (by omega), decide_eq_true (p := (w.size : Int) > 0) (by omega)]
      exact congrArg some (sbyte0 w h 45)
    · rw [decide_eq_false (p := (w.size : Int) ≥ 1) (by omega), decide_eq_false (p := (w.size : Int) > 0) (by omega)]; rfl
  refine bnd_eq (x := (bif minus w then (w.extract 1 w.size, true) else (w, false))) ?_ rfl
  refine bnd_eq hp ?_
  cases hm : minus w with
  | false => rfl
  | true =>
    refine bif_eq_f rfl ?_
    dsimp only
    rw [e1]
    have h0 : 0 < w.size := by
      unfold minus at hm
      by_cases h : 0 < w.size
      · exact h
      · rw [decide_eq_false (by omega)] at hm; cases hm
    exact gd_eq ⟨by omega, by omega, by omega⟩ rfl
theorem sample_w (K : Nat) (w : ByteArray) (t : List ByteArray) (bad : Bool) (hw : w.size ≤ 100000) (hK : w.size + 1 ≤ K) : score_reader_sample K (w :: t) bad = some ((smp w).getD 0, t, bif (smp w).isSome then bad else true) := by
  refine bnd_eq (word_w K (w :: t) bad) ?_
  refine bnd_eq (cutp_w K w) ?_
  unfold smp
  cases hm : minus w with
  | true =>
    refine bif_eq_t rfl ?_
    have h1 := ext_size w 1 w.size
    refine bnd_eq (value_w K (w.extract 1 w.size) 32768 t bad (by omega) (by omega)) ?_
    cases hn : num (w.extract 1 w.size) 32768 with
    | none => rfl
    | some n =>
      have := num_b hn
      dsimp only
      rw [kw_i64 (by omega) (by omega), kw_i16 (by omega) (by omega), Int.zero_sub]
      simp
  | false =>
    refine bif_eq_f rfl ?_
    refine bnd_eq (value_w K w 32767 t bad hw hK) ?_
    cases hn : num w 32767 with
    | none => rfl
    | some n =>
      have := num_b hn
      dsimp only
      rw [kw_i16 (by omega) (by omega)]
      simp
theorem samples_w (K : Nat) : ∀ (ws : List ByteArray) (e : Nat) (bad : Bool) (acc : List Int), (∀ w ∈ ws, w.size ≤ 100000 ∧ w.size + 1 ≤ K) → acc.length + ws.length ≤ 100000 →
    score_reader_steps_2.l0 K (ws.length + e + 1) ws bad acc = some ([], (bif ws.all (fun w => (smp w).isSome) then bad else true), acc ++ ws.map (fun w => (smp w).getD 0))
  | [], e, bad, acc, _, _ => by
    show some (([] : List ByteArray), bad, acc) = _
    simp
  | w :: t, e, bad, acc, hw, hl => by
    have hw0 := hw w (List.mem_cons_self ..)
    rw [List.length_cons] at hl
    have ih := samples_w K t e (bif (smp w).isSome then bad else true) (acc ++ [(smp w).getD 0]) (fun x hx => hw x (List.mem_cons_of_mem _ hx)) (by rw [List.length_append]; simp; omega)
    show score_reader_steps_2.r0 K (score_reader_steps_2.l0 K (t.length + 1 + e)) (w :: t) bad acc = _
    refine bif_eq_t (decide_eq_true (by rw [List.length_cons]; omega)) ?_
    refine bnd_eq (sample_w K w t bad hw0.1 hw0.2) ?_
    refine gd_eq (by simp only [List.length_cons, List.length_nil]; omega) ?_
    rw [show t.length + 1 + e = t.length + e + 1 by omega]
    refine ih.trans ?_
    rw [List.all_cons, List.map_cons, List.append_assoc]
    cases (smp w).isSome <;> cases t.all (fun w => (smp w).isSome) <;> rfl
/-- a slot's word -/
def slt (w : ByteArray) : Option (Int × (Int × (Int × Int))) :=
  if beqs w ⟨#[46]⟩ = true then some (0, (0, (0, 0))) else if beqs w ⟨#[120]⟩ = true then some (1, (0, (0, 0))) else if beqs w ⟨#[97]⟩ = true then some (0, (1, (0, 0))) else
  match numw ((cutL 47 (bl w)).map ofl) [2147483647, 2147483647, 2147483647, 4294967295] with
  | some [a, b, c, d] => some (a, (b, (c, d)))
  | _ => none
theorem cutL_size (c : UInt8) : ∀ (l : List UInt8), ∀ p ∈ cutL c l, p.length ≤ l.length
  | [], p, h => by
    simp only [cutL, List.mem_singleton] at h; subst h; exact Nat.le_refl _
  | x :: l, p, h => by
    have ih := cutL_size c l
    unfold cutL at h
    split at h
    · rcases List.mem_cons.1 h with rfl | h
      · exact Nat.zero_le _
      · exact Nat.le_succ_of_le (ih p h)
    · split at h
      · simp only [List.mem_singleton] at h; subst h; simp
      · rename_i q r hq
        rcases List.mem_cons.1 h with rfl | h
        · have := ih q (by rw [hq]; exact List.mem_cons_self ..)
          simp only [List.length_cons]; omega
        · exact Nat.le_succ_of_le (ih p (by rw [hq]; exact List.mem_cons_of_mem _ h))
theorem cut_size {c : UInt8} {s w : ByteArray} (h : w ∈ (cutL c (bl s)).map ofl) : w.size ≤ s.size := by
  obtain ⟨p, hp, rfl⟩ := List.mem_map.1 h
  have := cutL_size c (bl s) p hp
  rw [bl_len] at this
  rw [← bl_len, bl_ofl]; exact this
theorem cut_len (c : UInt8) (s : ByteArray) : ((cutL c (bl s)).map ofl).length ≤ s.size + 1 := by
  rw [List.length_map, cutL_len]
  have : (bl s).count c ≤ (bl s).length := List.count_le_length
  rw [bl_len] at this; omega
theorem nums4 {ws : List ByteArray} {l : List Int} {m1 m2 m3 m4 : Int} (h : numw ws [m1, m2, m3, m4] = some l) : ∃ a b c d, l = [a, b, c, d] := by
  have := (nums_len h).2
  match l, this with
  | [a, b, c, d], _ => exact ⟨a, b, c, d, rfl⟩
theorem nums_b : ∀ {ws : List ByteArray} {ms l : List Int}, numw ws ms = some l → ∀ i (h : i < l.length), 0 ≤ l[i] ∧ l[i] ≤ ms.getD i 0
  | [], [], l, h, i, hi => by simp only [numw, Option.some.injEq] at h; subst h; simp at hi
  | [], _ :: _, _, h, _, _ => by cases h
  | _ :: _, [], _, h, _, _ => by cases h
  | w :: ws, m :: ms, l, h, i, hi => by
    unfold numw at h
    split at h
    · cases h
    · rename_i n hn
      rw [Option.map_eq_some_iff] at h
      obtain ⟨a, h1, rfl⟩ := h
      cases i with
      | zero => exact num_b hn
      | succ i => exact nums_b h1 i (by simpa using hi)
theorem slot1_w (K : Nat) (hK : 1 ≤ K) (i : Nat) (m : Int) (ps t : List ByteArray) (bad : Bool) (hi : i < ps.length) (hw : ∀ w ∈ ps, w.size ≤ 100000 ∧ w.size + 1 ≤ K) :
    score_reader_value_2 K (Kd.str.nth ps i) m t bad = some (match num (ps[i]'hi) m with | some n => (n, bad) | none => (0, true)) := by
  have e : Kd.str.nth ps i = ps[i]'hi := by
    have : ps.drop i = ps[i]'hi :: ps.drop (i + 1) := List.drop_eq_getElem_cons hi
    exact nth_drop (k := .str) this
  rw [e]
  have := hw _ (List.getElem_mem hi)
  exact value_w K _ m t bad this.1 this.2
theorem slot_w (K : Nat) (w : ByteArray) (t : List ByteArray) (bad : Bool) (hw : w.size ≤ 90000) (hK : w.size + 1 ≤ K) :
    ∃ v, score_reader_slot K (w :: t) bad = some (v.1, v.2.1, v.2.2.1, v.2.2.2, t, bif (slt w).isSome then bad else true) ∧ ∀ u, slt w = some u → v = u := by
  unfold slt
  by_cases h1 : beqs w ⟨#[46]⟩ = true
  · rw [if_pos h1]
    exact ⟨(0, (0, (0, 0))), bnd_eq (word_w K (w :: t) bad) (bif_eq_t h1 rfl), fun u hu => Option.some.inj hu⟩
  rw [if_neg h1]
  have h1' := Bool.eq_false_iff.2 h1
  by_cases h2 : beqs w ⟨#[120]⟩ = true
  · rw [if_pos h2]
    exact ⟨(1, (0, (0, 0))), bnd_eq (word_w K (w :: t) bad) (bif_eq_f h1' (bif_eq_t h2 rfl)), fun u hu => Option.some.inj hu⟩
  rw [if_neg h2]
  have h2' := Bool.eq_false_iff.2 h2
  by_cases h3 : beqs w ⟨#[97]⟩ = true
  · rw [if_pos h3]
    exact ⟨(0, (1, (0, 0))), bnd_eq (word_w K (w :: t) bad) (bif_eq_f h1' (bif_eq_f h2' (bif_eq_t h3 rfl))), fun u hu => Option.some.inj hu⟩
  rw [if_neg h3]
  have h3' := Bool.eq_false_iff.2 h3
  have hsz : ∀ x ∈ (cutL 47 (bl w)).map ofl, x.size ≤ 100000 ∧ x.size + 1 ≤ K := fun x hx => by
    have := cut_size hx; omega
  generalize hps : (cutL 47 (bl w)).map ofl = ps at hsz
  have hsp : strings_Split K w ⟨#[47]⟩ = some (.inr ps) := by rw [← hps]; exact split_w K w 47 hw hK
  by_cases h4 : ps.length = 4
  · obtain ⟨p0, p1, p2, p3, rfl⟩ : ∃ p0 p1 p2 p3, ps = [p0, p1, p2, p3] := by
      match ps, h4 with
      | [p0, p1, p2, p3], _ => exact ⟨p0, p1, p2, p3, rfl⟩
    have v : ∀ (p : ByteArray) (m : Int) (b : Bool), p ∈ [p0, p1, p2, p3] → score_reader_value_2 K p m t b = some (match num p m with | some n => (n, b) | none => (0, true)) := fun p m b hp => value_w K p m t b (hsz p hp).1 (hsz p hp).2
    have s0 := fun (m : Int) (b : Bool) => v p0 m b (by simp)
    have s1 := fun (m : Int) (b : Bool) => v p1 m b (by simp)
    have s2 := fun (m : Int) (b : Bool) => v p2 m b (by simp)
    have s3 := fun (m : Int) (b : Bool) => v p3 m b (by simp)
    have q : ∀ (i : Int) (p : ByteArray) (m : Int) (b : Bool), Kd.str.nth [p0, p1, p2, p3] (Int.toNat i) = p → 0 ≤ i → i < 4 → p ∈ [p0, p1, p2, p3] → score_reader_slot_1 K i m [p0, p1, p2, p3] t b = some (match num p m with | some n => (n, b) | none => (0, true)) := by
      intro i p m b hp h0 h4 hm
      unfold score_reader_slot_1
      rw [hp]
      refine gd_eq ⟨h0, h4⟩ ?_
      refine bnd_eq (v p m b hm) ?_
      cases num p m with
      | none => rfl
      | some n => rfl
    refine ⟨((num p0 2147483647).getD 0, ((num p1 2147483647).getD 0, ((num p2 2147483647).getD 0, kwrap .u32 ((num p3 4294967295).getD 0)))), ?_, ?_⟩
    · refine bnd_eq (word_w K (w :: t) bad) ?_
      refine bif_eq_f h1' (bif_eq_f h2' (bif_eq_f h3' ?_))
      refine bnd_eq hsp ?_
      refine bif_eq_f rfl ?_
      refine bnd_eq (q 0 p0 2147483647 bad rfl (by decide) (by decide) (by simp)) ?_
      refine bnd_eq (q 1 p1 2147483647 _ rfl (by decide) (by decide) (by simp)) ?_
      refine bnd_eq (q 2 p2 2147483647 _ rfl (by decide) (by decide) (by simp)) ?_
      refine gd_eq (by simp) ?_
      refine bnd_eq (s3 4294967295 _) ?_
      unfold numw numw numw numw numw
      cases num p0 2147483647 <;> cases num p1 2147483647 <;> cases num p2 2147483647 <;> cases num p3 4294967295 <;> rfl
    · intro u hu
      unfold numw numw numw numw numw at hu
      cases h0 : num p0 2147483647 <;> cases h1 : num p1 2147483647 <;> cases h2 : num p2 2147483647 <;> cases h3 : num p3 4294967295 <;> rw [h0, h1, h2, h3] at hu <;> first | (cases hu; done) | skip
      have := num_b h3
      simp only [Option.map_some, Option.some.injEq] at hu
      rw [← hu]
      simp only [Option.getD_some]
      rw [kw_u32, Int.emod_eq_of_lt (by omega) (by omega)]
  · have hn : numw ps [2147483647, 2147483647, 2147483647, 4294967295] = none := by
      cases h : numw ps [2147483647, 2147483647, 2147483647, 4294967295] with
      | none => rfl
      | some l => exact absurd (nums_len h).1 h4
    rw [hn]
    refine ⟨(0, (0, (0, 0))), ?_, fun u hu => by cases hu⟩
    refine bnd_eq (word_w K (w :: t) bad) ?_
    refine bif_eq_f h1' (bif_eq_f h2' (bif_eq_f h3' ?_))
    refine bnd_eq hsp ?_
    exact bif_eq_t (bne_iff_ne.2 (by omega)) rfl
def slots : List ByteArray → Option (List Slot)
  | [] => some []
  | w :: t => match slt w with
    | none => none
    | some v => (slots t).map (v :: ·)
theorem slots_len : ∀ {ws : List ByteArray} {l : List Slot}, slots ws = some l → l.length = ws.length
  | [], l, h => by simp only [slots, Option.some.injEq] at h; subst h; rfl
  | w :: t, l, h => by
    unfold slots at h
    split at h
    · cases h
    · rw [Option.map_eq_some_iff] at h
      obtain ⟨a, h1, rfl⟩ := h
      rw [List.length_cons, List.length_cons, slots_len h1]
theorem slots_w (K : Nat) : ∀ (ws : List ByteArray) (e : Nat) (bad : Bool) (acc : List Slot), (∀ w ∈ ws, w.size ≤ 90000 ∧ w.size + 1 ≤ K) → acc.length + ws.length ≤ 100000 →
    ∃ r, score_reader_steps_2.l1 K (ws.length + e + 1) ws bad acc = some ([], (bif (slots ws).isSome then bad else true), r) ∧ r.length = acc.length + ws.length ∧ ∀ l, slots ws = some l → r = acc ++ l
  | [], e, bad, acc, _, _ => by
    refine ⟨acc, ?_, rfl, fun l h => by simp only [slots, Option.some.injEq] at h; subst h; simp⟩
    exact rfl
  | w :: t, e, bad, acc, hw, hl => by
    have hw0 := hw w (List.mem_cons_self ..)
    rw [List.length_cons] at hl
    obtain ⟨v, hv, hu⟩ := slot_w K w t bad hw0.1 hw0.2
    obtain ⟨r, g1, g2, g3⟩ := slots_w K t e (bif (slt w).isSome then bad else true) (acc ++ [v]) (fun x hx => hw x (List.mem_cons_of_mem _ hx)) (by rw [List.length_append]; simp; omega)
    refine ⟨r, ?_, by rw [g2, List.length_append, List.length_cons]; simp; omega, ?_⟩
    · show score_reader_steps_2.r1 K (score_reader_steps_2.l1 K (t.length + 1 + e)) (w :: t) bad acc = _
      refine bif_eq_t (decide_eq_true (by rw [List.length_cons]; omega)) ?_
      refine bnd_eq hv ?_
      refine gd_eq (by simp only [List.length_cons, List.length_nil]; omega) ?_
      rw [show t.length + 1 + e = t.length + e + 1 by omega]
      refine g1.trans ?_
      show _ = some ([], (bif (match slt w with | none => none | some v => (slots t).map (v :: ·)).isSome then bad else true), r)
      cases slt w <;> cases slots t <;> rfl
    · intro l hl
      unfold slots at hl
      split at hl
      · cases hl
      · rename_i u hu'
        rw [Option.map_eq_some_iff] at hl
        obtain ⟨a, h1, rfl⟩ := hl
        rw [g3 a h1, hu u hu', List.append_assoc]; rfl
end Go.Fo
