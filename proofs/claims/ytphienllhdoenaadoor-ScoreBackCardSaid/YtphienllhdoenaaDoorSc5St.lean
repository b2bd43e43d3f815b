/- Texts that are cut at a byte. -/
import Derived.Test.YtphienllhdoenaaDoorSc5F
import Derived.Test.YtphienllhdoenaaDoorSc5Sa
import Derived.Lib.Bytealg
import Derived.Laws.Strings
namespace Go.Fo
set_option maxRecDepth 6000
/-- cut at a byte: never nothing -/
def cutL (c : UInt8) : List UInt8 → List (List UInt8)
  | [] => [[]]
  | x :: l => if x = c then [] :: cutL c l else match cutL c l with
    | [] => [[x]]
    | p :: q => (x :: p) :: q
theorem cutL_ne (c : UInt8) : ∀ l, cutL c l ≠ []
  | [] => by simp [cutL]
  | x :: l => by
    unfold cutL
    split
    · simp
    · split <;> simp
theorem cutL_no (c : UInt8) : ∀ (p l : List UInt8), c ∉ p → cutL c (p ++ c :: l) = p :: cutL c l
  | [], l, _ => by simp [cutL]
  | x :: p, l, h => by
    have hx : x ≠ c := fun e => h (by simp [e])
    have hp : c ∉ p := fun e => h (List.mem_cons_of_mem _ e)
    rw [List.cons_append, cutL, if_neg hx, cutL_no c p l hp]
theorem cutL_all (c : UInt8) : ∀ (p : List UInt8), c ∉ p → cutL c p = [p]
  | [], _ => rfl
  | x :: p, h => by
    have hx : x ≠ c := fun e => h (by simp [e])
    have hp : c ∉ p := fun e => h (List.mem_cons_of_mem _ e)
    rw [cutL, if_neg hx, cutL_all c p hp]
/-- where a byte is -/
theorem first_or (c : UInt8) : ∀ l : List UInt8, c ∉ l ∨ ∃ p q, l = p ++ c :: q ∧ c ∉ p
  | [] => .inl (by simp)
  | x :: l => by
    by_cases e : x = c
    · exact .inr ⟨[], l, by rw [e]; rfl, by simp⟩
    · rcases first_or c l with h | ⟨p, q, rfl, h⟩
      · exact .inl (fun h2 => by
          rcases List.mem_cons.1 h2 with h3 | h3
          · exact e h3.symm
          · exact h h3)
      · exact .inr ⟨x :: p, q, rfl, fun h2 => by
          rcases List.mem_cons.1 h2 with h3 | h3
          · exact e h3.symm
          · exact h h3⟩
theorem idx_no (c : UInt8) : ∀ l : List UInt8, c ∉ l → Go.Lib.indexByte l c = -1
  | [], _ => rfl
  | x :: l, h => by
    have hx : (x == c) = false := beq_eq_false_iff_ne.2 (fun e => h (by simp [e]))
    have hl := idx_no c l (fun e => h (List.mem_cons_of_mem _ e))
    unfold Go.Lib.indexByte
    rw [hx, hl]; rfl
theorem idx_at (c : UInt8) (q : List UInt8) : ∀ p : List UInt8, c ∉ p → Go.Lib.indexByte (p ++ c :: q) c = (p.length : Int)
  | [], _ => by
    show (if (c == c) = true then (0 : Int) else _) = 0
    rw [if_pos (beq_self_eq_true c)]
  | x :: p, h => by
    have hx : (x == c) = false := beq_eq_false_iff_ne.2 (fun e => h (by simp [e]))
    have hl := idx_at c q p (fun e => h (List.mem_cons_of_mem _ e))
    rw [List.cons_append]
    unfold Go.Lib.indexByte
    have h1 : ¬ ((p.length : Int) == -1) = true := by simp
    rw [hx, hl, if_neg (by decide), if_neg h1]
    simp
theorem bfind_eq (s : ByteArray) (c : UInt8) : bfind s (c.toNat : Int) = Go.Lib.indexByte (bl s) c := by
  have h : ((c.toNat : Int)).toNat.toUInt8 = c := by rw [Int.toNat_natCast]; exact UInt8.ofNat_toNat
  show firstIdx s ((c.toNat : Int)).toNat.toUInt8 = _
  rw [h, Go.Lib.firstIdx_eq]; rfl
theorem index_w (K : Nat) (s : ByteArray) (c : UInt8) : internal_stringslite_Index K s ⟨#[c]⟩ = some (bfind s (c.toNat : Int)) := by
  have hs1 : ((⟨#[c]⟩ : ByteArray).size : Int) = 1 := rfl
  unfold internal_stringslite_Index
  dsimp only
  cases hb : beqs ⟨#[c]⟩ s with
  | true =>
    have h := beqs_ofl hb
    have h2 : bl s = [] ++ c :: [] := h.symm
    rw [bfind_eq, h2, idx_at c [] [] (by simp)]
    rfl
  | false =>
    refine bif_eq_f rfl ?_
    refine bif_eq_t rfl ?_
    refine gd_eq (show (0 : Int) < 1 by decide) ?_
    exact bnd_eq (x := bfind s (c.toNat : Int)) rfl rfl
/-- the program's cut at the first one -/
theorem scut_no (K : Nat) (s : ByteArray) (c : UInt8) (h : c ∉ bl s) : strings_Cut K s ⟨#[c]⟩ = some (s, ⟨#[]⟩, false) := by
  refine bnd_eq (x := (s, ⟨#[]⟩, false)) ?_ rfl
  refine bnd_eq (index_w K s c) ?_
  rw [bfind_eq, idx_no c _ h]
  rfl
theorem scut_at (K : Nat) (s : ByteArray) (c : UInt8) {p q : List UInt8} (h : bl s = p ++ c :: q) (hp : c ∉ p) (hs : s.size ≤ 100000) : strings_Cut K s ⟨#[c]⟩ = some (ofl p, ofl q, true) := by
  have hl : s.size = p.length + (q.length + 1) := by rw [← bl_len, h, List.length_append, List.length_cons]
  refine bnd_eq (x := (ofl p, ofl q, true)) ?_ rfl
  refine bnd_eq (index_w K s c) ?_
  rw [bfind_eq, h, idx_at c q p hp]
  refine bif_eq_t (decide_eq_true (by omega)) ?_
  refine gd_eq (by omega) ?_
  have e1 : ((⟨#[c]⟩ : ByteArray).size : Int) = 1 := rfl
  rw [e1, kw_i64 (by omega) (by omega)]
  refine gd_eq (by omega) ?_
  rw [bl_ext, bl_ext, h]
  have e2 : ((p ++ c :: q).drop (Int.toNat 0)).take (Int.toNat (p.length : Int) - Int.toNat 0) = p := by simp
  have e3 : ((p ++ c :: q).drop (Int.toNat ((p.length : Int) + 1))).take (Int.toNat (s.size : Int) - Int.toNat ((p.length : Int) + 1)) = q := by
    rw [show Int.toNat ((p.length : Int) + 1) = p.length + 1 by omega, Int.toNat_natCast, hl, List.drop_append, List.drop_of_length_le (by omega), List.nil_append, show p.length + 1 - p.length = 1 by omega, List.drop_succ_cons, List.drop_zero]
    exact List.take_of_length_le (by omega)
  rw [e2, e3]
theorem cut_one (c : UInt8) {r : List UInt8} (h : (cutL c r).length = 1) : cutL c r = [r] := by
  rcases first_or c r with h1 | ⟨p, q, rfl, hp⟩
  · exact cutL_all c r h1
  · rw [cutL_no c p q hp] at h
    exact absurd (by simpa using h) (cutL_ne c q)
theorem split_loop (K : Nat) (c : UInt8) (n : Nat) (hn : n ≤ 100000) : ∀ (m i e : Nat) (r : List UInt8) (d : List ByteArray), (cutL c r).length = m + 1 → d.length = i → i + m + 1 = n → r.length ≤ 100000 →
    ∃ x xs, strings_genSplit.l0 K ⟨#[c]⟩ 0 ((n : Int) - 1) (m + e + 1) (ofl r) (i : Int) (d ++ List.replicate (n - i) ⟨#[]⟩) = some (x, (n : Int) - 1, xs) ∧ xs.length = n ∧ xs.set (n - 1) x = d ++ (cutL c r).map ofl
  | 0, i, e, r, d, hc, hd, hi, hr => by
    refine ⟨ofl r, d ++ List.replicate (n - i) ⟨#[]⟩, ?_, by rw [List.length_append, List.length_replicate]; omega, ?_⟩
    · show strings_genSplit.r0 K ⟨#[c]⟩ 0 ((n : Int) - 1) (strings_genSplit.l0 K ⟨#[c]⟩ 0 ((n : Int) - 1) (0 + e)) (ofl r) (i : Int) (d ++ List.replicate (n - i) ⟨#[]⟩) = _
      rw [show (n : Int) - 1 = (i : Int) by omega]
      exact bif_eq_f (decide_eq_false (by omega)) rfl
    · rw [cut_one c hc, show n - i = 1 by omega, List.set_append_right _ _ (by omega), show n - 1 - d.length = 0 by omega]
      rfl
  | m + 1, i, e, r, d, hc, hd, hi, hr => by
    rcases first_or c r with h1 | ⟨p, q, rfl, hp⟩
    · rw [cutL_all c r h1] at hc; simp at hc
    · rw [cutL_no c p q hp] at hc ⊢
      rw [List.length_append, List.length_cons] at hr
      obtain ⟨x, xs, g1, g2, g3⟩ := split_loop K c n hn m (i + 1) e q (d ++ [ofl p]) (by simpa using hc) (by simp [hd]) (by omega) (by omega)
      refine ⟨x, xs, ?_, g2, by rw [g3, List.map_cons, List.append_assoc]; rfl⟩
      show strings_genSplit.r0 K ⟨#[c]⟩ 0 ((n : Int) - 1) (strings_genSplit.l0 K ⟨#[c]⟩ 0 ((n : Int) - 1) (m + 1 + e)) (ofl (p ++ c :: q)) (i : Int) (d ++ List.replicate (n - i) ⟨#[]⟩) = _
      have hsz : (ofl (p ++ c :: q)).size = p.length + (q.length + 1) := by rw [← bl_len, bl_ofl, List.length_append, List.length_cons]
      have hlen : (d ++ List.replicate (n - i) (⟨#[]⟩ : ByteArray)).length = n := by rw [List.length_append, List.length_replicate]; omega
      refine bif_eq_t (decide_eq_true (by omega)) ?_
      refine bnd_eq (x := (p.length : Int)) (bnd_eq (x := (p.length : Int)) (by rw [index_w, bfind_eq, bl_ofl, idx_at c q p hp]) rfl) ?_
      refine bif_eq_f (decide_eq_false (by omega)) ?_
      have e1 : ((⟨#[c]⟩ : ByteArray).size : Int) = 1 := rfl
      rw [e1, Int.add_zero, kw_i64 (x := (p.length : Int)) (by omega) (by omega), kw_i64 (x := (p.length : Int) + 1) (by omega) (by omega), kw_i64 (x := (i : Int) + 1) (by omega) (by omega)]
      refine gd_eq (by rw [hlen]; omega) ?_
      refine gd_eq (by omega) ?_
      have e2 : (ofl (p ++ c :: q)).extract (Int.toNat 0) (Int.toNat (p.length : Int)) = ofl p := by
        rw [bl_ext, bl_ofl]; congr 1; simp
      have e3 : (ofl (p ++ c :: q)).extract (Int.toNat ((p.length : Int) + 1)) (Int.toNat ((ofl (p ++ c :: q)).size : Int)) = ofl q := by
        rw [bl_ext, bl_ofl]; congr 1
        rw [show Int.toNat ((p.length : Int) + 1) = p.length + 1 by omega, Int.toNat_natCast, hsz, List.drop_append, List.drop_of_length_le (by omega), List.nil_append, show p.length + 1 - p.length = 1 by omega, List.drop_succ_cons, List.drop_zero]
        exact List.take_of_length_le (by omega)
      rw [e2, e3, Int.toNat_natCast, show m + 1 + e = m + e + 1 by omega, show (i : Int) + 1 = ((i + 1 : Nat) : Int) by omega]
      have e4 : (d ++ List.replicate (n - i) (⟨#[]⟩ : ByteArray)).set i (ofl p) = (d ++ [ofl p]) ++ List.replicate (n - (i + 1)) ⟨#[]⟩ := by
        rw [List.set_append_right _ _ (by omega), hd, Nat.sub_self, show n - i = (n - (i + 1)) + 1 by omega, List.replicate_succ, List.set_cons_zero, List.append_assoc]; rfl
      rw [e4]
      exact g1
theorem cutL_len (c : UInt8) : ∀ l : List UInt8, (cutL c l).length = l.count c + 1
  | [] => rfl
  | x :: l => by
    have ih := cutL_len c l
    unfold cutL
    by_cases h : x = c
    · rw [if_pos h, h, List.count_cons_self, List.length_cons, ih]
    · rw [if_neg h, List.count_cons_of_ne h, ← ih]
      cases hc : cutL c l with
      | nil => exact absurd hc (cutL_ne c l)
      | cons p q => rfl
theorem split_w (K : Nat) (s : ByteArray) (c : UInt8) (hs : s.size ≤ 90000) (hK : s.size + 1 ≤ K) : strings_Split K s ⟨#[c]⟩ = some (.inr ((cutL c (bl s)).map ofl)) := by
  have hcl := cutL_len c (bl s)
  have hle : (bl s).count c ≤ s.size := by rw [← bl_len]; exact List.count_le_length
  generalize hn : (cutL c (bl s)).length = n at hcl
  have hbc : bcount s (sbyte ⟨#[c]⟩ 0) = ((n : Int) - 1) := by
    have h : ((c.toNat : Int)).toNat.toUInt8 = c := by rw [Int.toNat_natCast]; exact UInt8.ofNat_toNat
    show (((bl s).count ((c.toNat : Int)).toNat.toUInt8 : Nat) : Int) = _
    rw [h]; omega
  obtain ⟨x, xs, g1, g2, g3⟩ := split_loop K c n (by omega) (n - 1) 0 (K - n) (bl s) [] (by omega) rfl (by omega) (by rw [bl_len]; omega)
  rw [show n - 1 + (K - n) + 1 = K by omega, ofl_bl, Nat.sub_zero, List.nil_append] at g1
  rw [List.nil_append] at g3
  refine bnd_eq (x := .inr ((cutL c (bl s)).map ofl)) ?_ rfl
  refine bif_eq_f rfl ?_
  have hbq : beqs (⟨#[c]⟩ : ByteArray) ⟨#[]⟩ = false := by
    cases hb : beqs (⟨#[c]⟩ : ByteArray) ⟨#[]⟩ with
    | false => rfl
    | true => have := beqs_ofl hb; cases this
  refine bif_eq_f hbq ?_
  refine bnd_eq (x := (n : Int)) ?_ ?_
  · refine bif_eq_t (by decide) ?_
    refine bnd_eq (x := (n : Int) - 1) ?_ ?_
    · refine gd_eq rfl ?_
      rw [hbc]
    · show some (kwrap .i64 ((n : Int) - 1 + 1)) = some (n : Int)
      rw [show (n : Int) - 1 + 1 = (n : Int) by omega, kw_i64 (by omega) (by omega)]
  · rw [kw_i64 (x := (s.size : Int) + 1) (by omega) (by omega)]
    have hm : imin (n : Int) ((s.size : Int) + 1) = (n : Int) := by unfold imin; split <;> omega
    dsimp only
    rw [hm, kw_i64 (x := (n : Int) - 1) (by omega) (by omega), Int.toNat_natCast]
    refine gd_eq (by omega) ?_
    refine bnd_eq g1 ?_
    dsimp only
    rw [show Int.toNat ((n : Int) - 1) = n - 1 by omega]
    refine gd_eq (by rw [g2]; omega) ?_
    rw [kw_i64 (x := (n : Int) - 1 + 1) (by omega) (by omega)]
    refine gd_eq (by rw [List.length_set, g2]; omega) ?_
    rw [g3, show Int.toNat ((n : Int) - 1 + 1) = n by omega]
    have : ((cutL c (bl s)).map ofl).length = n := by rw [List.length_map, hn]
    rw [List.take_of_length_le (by omega)]
    rfl
end Go.Fo
