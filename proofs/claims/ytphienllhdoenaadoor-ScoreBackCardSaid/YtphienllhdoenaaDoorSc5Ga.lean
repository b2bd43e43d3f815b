/- Lines of steps: digits, bytes, slots. -/
import Derived.Test.YtphienllhdoenaaDoorSc5Sh
import Derived.Test.YtphienllhdoenaaDoorSc5F
import Derived.KernelRfl
namespace Go.Fo
set_option maxRecDepth 6000
theorem nth_tab {k : Kd} (l : List k.T) : tabOf (fun i => k.nth l i) l.length = l := (list_tab l k.df).symm

def ints (l : List UInt8) : List Int := l.map fun c => (c.toNat : Int)
theorem ofl_size (l : List UInt8) : (ofl l).size = l.length := by rw [← bl_len, bl_ofl]
theorem ints_len (l : List UInt8) : (ints l).length = l.length := List.length_map _
theorem ints_app (a b : List UInt8) : ints a ++ ints b = ints (a ++ b) := (List.map_append).symm
theorem sbytes_bl (s : ByteArray) : sbytes s = ints (bl s) := rfl
theorem sbytes_ofl (l : List UInt8) : sbytes (ofl l) = ints l := by rw [sbytes_bl, bl_ofl]
theorem bl_push (s : ByteArray) (c : UInt8) : bl (s.push c) = bl s ++ [c] := by
  unfold bl
  rw [ByteArray.data_push, Array.toList_push]
theorem bstr_go : ∀ (l : List UInt8) (acc : ByteArray), (ints l).foldl (fun r n => r.push (UInt8.ofNat n.toNat)) acc = ofl (bl acc ++ l)
  | [], acc => by rw [List.append_nil, ofl_bl]; rfl
  | c :: l, acc => by
    show (ints l).foldl _ (acc.push (UInt8.ofNat (c.toNat : Int).toNat)) = _
    rw [bstr_go l, Int.toNat_natCast, UInt8.ofNat_toNat, bl_push, List.append_assoc]; rfl
theorem bstr_ints (l : List UInt8) : bstr (ints l) = ofl l := (bstr_go l _).trans rfl
theorem bl_app (s t : ByteArray) : bl (s ++ t) = bl s ++ bl t := by
  unfold bl
  rw [ByteArray.data_append, Array.toList_append]
theorem ofl_app (a b : List UInt8) : ofl a ++ ofl b = ofl (a ++ b) := by
  rw [← ofl_bl (ofl a ++ ofl b), bl_app, bl_ofl, bl_ofl]
theorem ws_w (K : Nat) (t acc : List UInt8) (h : acc.length + t.length ≤ 70368744177664) : strings_Builder_WriteString K (ofl t) (ints acc) = some ((t.length : Int), ints (acc ++ t)) := by
  refine bnd_eq (x := ()) rfl ?_
  dsimp only
  rw [sbytes_ofl, ints_len, ints_len, ofl_size, ints_app]
  exact gd_eq (by omega) rfl
theorem wb_w (K : Nat) (c : UInt8) (acc : List UInt8) (h : acc.length + 1 ≤ 70368744177664) : strings_Builder_WriteByte K (c.toNat : Int) (ints acc) = some (ints (acc ++ [c])) := by
  refine bnd_eq (x := ()) rfl ?_
  refine gd_eq (by rw [ints_len]; simp only [List.length_cons, List.length_nil]; omega) ?_
  rw [← ints_app]; rfl
theorem bs_w (K : Nat) (acc : List UInt8) (h : acc.length ≤ 70368744177664) : strings_Builder_String K (ints acc) = some (ofl acc) := by
  refine gd_eq (by rw [ints_len]; exact h) ?_
  rw [bstr_ints]
/-- the digits of a number -/
def dch (d : Nat) : UInt8 := UInt8.ofNat (48 + d)
def dgs (n : Nat) : List UInt8 := if n < 10 then [dch n] else dgs (n / 10) ++ [dch (n % 10)]
termination_by n
decreasing_by omega
theorem dgs_lt {n : Nat} (h : n < 10) : dgs n = [dch n] := by rw [dgs, if_pos h]
theorem dgs_ge {n : Nat} (h : ¬ n < 10) : dgs n = dgs (n / 10) ++ [dch (n % 10)] := by rw [dgs, if_neg h]
theorem dgs_len : ∀ (k n : Nat), 1 ≤ k → n < 10 ^ k → 1 ≤ (dgs n).length ∧ (dgs n).length ≤ k
  | 0, _, h, _ => by omega
  | k + 1, n, _, h => by
    by_cases h1 : n < 10
    · rw [dgs_lt h1]; simp
    · rw [dgs_ge h1, List.length_append]
      have h2 : 10 ^ (k + 1) = 10 ^ k * 10 := Nat.pow_succ 10 k
      have hk : 1 ≤ k := by
        rcases Nat.eq_zero_or_pos k with e | e
        · subst e; omega
        · exact e
      have := dgs_len k (n / 10) hk (by omega)
      simp only [List.length_cons, List.length_nil]; omega
theorem rstr_d {d : Nat} : rstr (48 + (d : Int)) = ofl [dch d] := by
  unfold rstr dch
  rw [show (48 + (d : Int)).toNat = 48 + d by omega]; rfl
theorem num_w : ∀ (k n K : Nat), 1 ≤ k → n < 10 ^ k → k ≤ 20 → k ≤ K → n ≤ 9223372036854775807 → score_number K (n : Int) = some (ofl (dgs n))
  | 0, _, _, h, _, _, _, _ => by omega
  | k + 1, n, K, _, h, hk, hK, hn => by
    obtain ⟨K, rfl⟩ : ∃ q, K = q + 1 := ⟨K - 1, by omega⟩
    rw [score_number]
    refine bif_eq_f (decide_eq_false (by omega)) ?_
    have e1 : Int.tmod (n : Int) 10 = ((n % 10 : Nat) : Int) := by rw [Int.tmod_eq_emod_of_nonneg (by omega)]; omega
    have e2 : Int.tdiv (n : Int) 10 = ((n / 10 : Nat) : Int) := by rw [Int.tdiv_eq_ediv_of_nonneg (by omega)]; omega
    dsimp only
    rw [e1, e2, kw_i64 (x := 48 + ((n % 10 : Nat) : Int)) (by omega) (by omega), kw_i32 (by omega) (by omega), kw_i64 (x := ((n / 10 : Nat) : Int)) (by omega) (by omega), rstr_d]
    refine gd_eq (by omega) ?_
    by_cases h1 : n < 10
    · refine bif_eq_t (decide_eq_true (by omega)) ?_
      rw [dgs_lt h1, Nat.mod_eq_of_lt h1]
    · have h2 : 10 ^ (k + 1) = 10 ^ k * 10 := Nat.pow_succ 10 k
      have hk1 : 1 ≤ k := by
        rcases Nat.eq_zero_or_pos k with e | e
        · subst e; omega
        · exact e
      have hl := dgs_len k (n / 10) hk1 (by omega)
      refine bif_eq_f (decide_eq_false (by omega)) ?_
      refine bnd_eq (num_w k (n / 10) K hk1 (by omega) (by omega) (by omega) (by omega)) ?_
      rw [ofl_app, ← dgs_ge h1]
      exact gd_eq (by rw [ofl_size, ofl_size]; simp only [List.length_cons, List.length_nil]; omega) rfl
theorem dig_ext {d : Nat} (h : d < 10) : (⟨#[48, 49, 50, 51, 52, 53, 54, 55, 56, 57]⟩ : ByteArray).extract d (d + 1) = ofl [dch d] := by
  rw [bl_ext]
  match d, h with
  | 0, _ => rfl
  | 1, _ => rfl
  | 2, _ => rfl
  | 3, _ => rfl
  | 4, _ => rfl
  | 5, _ => rfl
  | 6, _ => rfl
  | 7, _ => rfl
  | 8, _ => rfl
  | 9, _ => rfl
/-- a byte's two digits of base 16 -/
def hexch (d : Nat) : UInt8 := ([48, 49, 50, 51, 52, 53, 54, 55, 56, 57, 97, 98, 99, 100, 101, 102] : List UInt8).getD d 0
def hx2 (x : Int) : List UInt8 := [hexch (x / 16).toNat, hexch (x % 16).toNat]
theorem hexc_fin : ((List.range 16).all fun d => sbyte ⟨#[48, 49, 50, 51, 52, 53, 54, 55, 56, 57, 97, 98, 99, 100, 101, 102]⟩ d == ((hexch d).toNat : Int)) = true := by kernel_rfl
theorem nib_fin : ((List.range 256).all fun n => kshr .u8 (n : Int) 4 == (n : Int) / 16 && kand .u8 (n : Int) 15 == (n : Int) % 16) = true := by kernel_rfl
theorem hexc_w {d : Int} (h0 : 0 ≤ d) (h1 : d < 16) : sbyte ⟨#[48, 49, 50, 51, 52, 53, 54, 55, 56, 57, 97, 98, 99, 100, 101, 102]⟩ (Int.toNat d) = ((hexch d.toNat).toNat : Int) := beq_iff_eq.1 (List.all_eq_true.1 hexc_fin d.toNat (List.mem_range.2 (by omega)))
theorem nib_w {x : Int} (h0 : 0 ≤ x) (h1 : x < 256) : kshr .u8 x 4 = x / 16 ∧ kand .u8 x 15 = x % 16 := by
  obtain ⟨n, rfl⟩ : ∃ n : Nat, x = n := ⟨x.toNat, by omega⟩
  have h := List.all_eq_true.1 nib_fin n (List.mem_range.2 (by omega))
  simp only [Bool.and_eq_true, beq_iff_eq] at h
  exact h
def hexT (b : List Int) : List UInt8 := if b = [] then [45] else b.flatMap hx2
theorem fm_len : ∀ b : List Int, (b.flatMap hx2).length = 2 * b.length
  | [] => rfl
  | x :: b => by rw [List.flatMap_cons, List.length_append, fm_len b, List.length_cons]; show 2 + _ = _; omega
theorem hex_loop2 (K : Nat) (b : List Int) (hb : ∀ x ∈ b, 0 ≤ x ∧ x < 256) (hl : b.length ≤ 1000000) : ∀ (r : List Int) (i e : Nat) (acc : List UInt8), b.drop i = r → acc.length = 2 * i →
    score_hex.l0 K b (b.length : Int) (r.length + e + 1) (i : Int) (ints acc) = some (ints (acc ++ r.flatMap hx2))
  | [], i, e, acc, h, ha => by
    have hi : b.length ≤ i := List.drop_eq_nil_iff.1 h
    show score_hex.r0 K b (b.length : Int) (score_hex.l0 K b (b.length : Int) (0 + e)) (i : Int) (ints acc) = _
    exact bif_eq_f (decide_eq_false (by omega)) (by simp)
  | x :: r, i, e, acc, h, ha => by
    have hi := drop_len h
    have hx := hb x (List.mem_of_mem_drop (by rw [h]; exact List.mem_cons_self ..))
    obtain ⟨n1, n2⟩ := nib_w hx.1 hx.2
    show score_hex.r0 K b (b.length : Int) (score_hex.l0 K b (b.length : Int) (r.length + 1 + e)) (i : Int) (ints acc) = _
    have e1 : (Kd.int .u8).nth b (Int.toNat (i : Int)) = x := nth_drop (k := .int .u8) h
    refine bif_eq_t (decide_eq_true (by omega)) ?_
    dsimp only
    rw [e1, n1, n2]
    refine gd_eq ⟨by omega, by omega⟩ ?_
    refine gd_eq ⟨by omega, by show x / 16 < 16; omega⟩ ?_
    rw [hexc_w (by omega) (by omega), hexc_w (by omega) (by omega)]
    refine bnd_eq (wb_w K _ acc (by omega)) ?_
    refine gd_eq ⟨by omega, by show x % 16 < 16; omega⟩ ?_
    refine bnd_eq (wb_w K _ _ (by rw [List.length_append]; simp; omega)) ?_
    rw [kw_i64 (by omega) (by omega), show r.length + 1 + e = r.length + e + 1 by omega, show (i : Int) + 1 = ((i + 1 : Nat) : Int) by omega, hex_loop2 K b hb hl r (i + 1) e _ (drop_tail h) (by simp only [List.length_append, List.length_cons, List.length_nil]; omega)]
    rw [List.flatMap_cons, List.append_assoc, List.append_assoc]; rfl
theorem hexT_w (K : Nat) (b : List Int) (hb : ∀ x ∈ b, 0 ≤ x ∧ x < 256) (hl : b.length ≤ 1000000) (hK : b.length + 1 ≤ K) : score_hex K b = some (ofl (hexT b)) := by
  unfold hexT
  by_cases h : b = []
  · subst h; rfl
  · have h0 : 0 < b.length := List.length_pos_iff.2 h
    rw [if_neg h]
    refine bif_eq_f (beq_eq_false_iff_ne.2 (by omega)) ?_
    have := hex_loop2 K b hb hl b 0 (K - b.length - 1) [] rfl rfl
    rw [show b.length + (K - b.length - 1) + 1 = K by omega] at this
    refine bnd_eq this ?_
    rw [List.nil_append]
    exact bnd_eq (bs_w K _ (by rw [fm_len]; omega)) rfl
/-- a slot's word -/
def n31 (x : Int) : Prop := 0 ≤ x ∧ x ≤ 2147483647
instance (x : Int) : Decidable (n31 x) := by unfold n31; infer_instance
def tokT (s : Slot) : Option (List UInt8) :=
  if s = (0, (0, (0, 0))) then some [46] else if s = (1, (0, (0, 0))) then some [120] else if s = (0, (1, (0, 0))) then some [97] else
  if n31 s.1 ∧ n31 s.2.1 ∧ n31 s.2.2.1 then some (dgs s.1.toNat ++ 47 :: (dgs s.2.1.toNat ++ 47 :: (dgs s.2.2.1.toNat ++ 47 :: dgs s.2.2.2.toNat))) else none
theorem slot_eq (a b c d a' b' c' d' : Int) : ((a == a') && ((b == b') && ((c == c') && (d == d')))) = decide ((a, (b, (c, d))) = ((a', (b', (c', d'))) : Slot)) := by
  by_cases h : (a, (b, (c, d))) = ((a', (b', (c', d'))) : Slot)
  · rw [decide_eq_true h]
    simp only [Prod.mk.injEq] at h
    obtain ⟨rfl, rfl, rfl, rfl⟩ := h
    simp
  · rw [decide_eq_false h]
    simp only [Prod.mk.injEq] at h
    rw [Bool.eq_false_iff]
    intro hh
    simp only [Bool.and_eq_true, beq_iff_eq] at hh
    exact h hh
theorem dg10 {n : Nat} (h : n < 10000000000) : 1 ≤ (dgs n).length ∧ (dgs n).length ≤ 10 := dgs_len 10 n (by decide) (by simpa using h)
theorem tokT_len {s : Slot} {t : List UInt8} (hm : 0 ≤ s.2.2.2 ∧ s.2.2.2 < 4294967296) (h : tokT s = some t) : 1 ≤ t.length ∧ t.length ≤ 43 := by
  unfold tokT at h
  split at h
  · cases h; decide
  · split at h
    · cases h; decide
    · split at h
      · cases h; decide
      · split at h
        · rename_i hc
          simp only [Option.some.injEq] at h; subst h
          unfold n31 at hc
          have h1 := dg10 (n := s.1.toNat) (by omega)
          have h2 := dg10 (n := s.2.1.toNat) (by omega)
          have h3 := dg10 (n := s.2.2.1.toNat) (by omega)
          have h4 := dg10 (n := s.2.2.2.toNat) (by omega)
          simp only [List.length_append, List.length_cons]; omega
        · cases h
theorem num10 (K : Nat) {x : Int} (hK : 20 ≤ K) (h0 : 0 ≤ x) (h1 : x < 10000000000) : score_number K x = some (ofl (dgs x.toNat)) := by
  obtain ⟨n, rfl⟩ : ∃ n : Nat, x = n := ⟨x.toNat, by omega⟩
  rw [Int.toNat_natCast]
  exact num_w 10 n K (by decide) (by
    have : (10 : Nat) ^ 10 = 10000000000 := by decide
    omega) (by decide) (by omega) (by omega)
theorem tok_step (K : Nat) (hK : 20 ≤ K) (a b c d : Int) (next : ByteArray → Int → Option (ByteArray ⊕ (ByteArray × Bool))) (k : Nat) (hk : k < 3) (v : Int) (hv : List.getD [a, b, c] k 0 = v) (acc : List UInt8) (ha : acc.length ≤ 1000) :
    score_token.r0 K a b c d next (ofl acc) (k : Int) = if n31 v then next (ofl (acc ++ (dgs v.toNat ++ [47]))) ((k + 1 : Nat) : Int) else some (.inr (⟨#[]⟩, false)) := by
  refine bif_eq_t (decide_eq_true (by omega)) ?_
  dsimp only
  rw [Int.toNat_natCast, hv]
  refine gd_eq ⟨by omega, by omega⟩ ?_
  by_cases h : n31 v
  · rw [if_pos h]
    unfold n31 at h
    refine bif_eq_f (by rw [decide_eq_false (by omega), decide_eq_false (by omega)]; rfl) ?_
    refine bnd_eq (num10 K hK h.1 (by omega)) ?_
    have hl := dg10 (n := v.toNat) (by omega)
    have e : (⟨#[47]⟩ : ByteArray) = ofl [47] := rfl
    rw [e, ofl_app, ofl_app, kw_i64 (by omega) (by omega)]
    exact gd_eq ⟨by rw [ofl_size, ofl_size]; simp only [List.length_cons, List.length_nil]; omega, by rw [ofl_size, ofl_size]; simp only [List.length_append, List.length_cons, List.length_nil]; omega⟩ rfl
  · rw [if_neg h]
    unfold n31 at h
    refine bif_eq_t ?_ rfl
    by_cases h1 : v < 0
    · rw [decide_eq_true h1]; rfl
    · rw [decide_eq_false h1, decide_eq_true (p := v > 2147483647) (by omega)]; rfl
theorem tok_w (K : Nat) (hK : 30 ≤ K) (s : Slot) (hm : 0 ≤ s.2.2.2 ∧ s.2.2.2 < 4294967296) : ∃ t, score_token K s.1 s.2.1 s.2.2.1 s.2.2.2 = some (t, (tokT s).isSome) ∧ ∀ u, tokT s = some u → t = ofl u := by
  obtain ⟨a, b, c, d⟩ := s
  dsimp only at hm ⊢
  unfold tokT
  by_cases h1 : (a, (b, (c, d))) = ((0, (0, (0, 0))) : Slot)
  · rw [if_pos h1]
    exact ⟨⟨#[46]⟩, bif_eq_t (by rw [slot_eq]; exact decide_eq_true h1) rfl, fun u hu => by cases hu; rfl⟩
  rw [if_neg h1]
  have h1' : ((a == 0) && ((b == 0) && ((c == 0) && (d == 0)))) = false := by rw [slot_eq]; exact decide_eq_false h1
  by_cases h2 : (a, (b, (c, d))) = ((1, (0, (0, 0))) : Slot)
  · rw [if_pos h2]
    exact ⟨⟨#[120]⟩, bif_eq_f h1' (bif_eq_t (by rw [slot_eq]; exact decide_eq_true h2) rfl), fun u hu => by cases hu; rfl⟩
  rw [if_neg h2]
  have h2' : ((a == 1) && ((b == 0) && ((c == 0) && (d == 0)))) = false := by rw [slot_eq]; exact decide_eq_false h2
  by_cases h3 : (a, (b, (c, d))) = ((0, (1, (0, 0))) : Slot)
  · rw [if_pos h3]
    exact ⟨⟨#[97]⟩, bif_eq_f h1' (bif_eq_f h2' (bif_eq_t (by rw [slot_eq]; exact decide_eq_true h3) rfl)), fun u hu => by cases hu; rfl⟩
  rw [if_neg h3]
  have h3' : ((a == 0) && ((b == 1) && ((c == 0) && (d == 0)))) = false := by rw [slot_eq]; exact decide_eq_false h3
  obtain ⟨e, rfl⟩ : ∃ e, K = e + 4 := ⟨K - 4, by omega⟩
  have l1 : score_token.l0 (e + 4) a b c d (e + 4) ⟨#[]⟩ 0 = if n31 a then score_token.l0 (e + 4) a b c d (e + 3) (ofl ([] ++ (dgs a.toNat ++ [47]))) ((1 : Nat) : Int) else some (.inr (⟨#[]⟩, false)) := tok_step (e + 4) (by omega) a b c d (score_token.l0 (e + 4) a b c d (e + 3)) 0 (by decide) a rfl [] (by simp)
  by_cases ha : n31 a
  · rw [if_pos ha] at l1
    have da := dg10 (n := a.toNat) (by unfold n31 at ha; omega)
    have l2 : score_token.l0 (e + 4) a b c d (e + 3) (ofl ([] ++ (dgs a.toNat ++ [47]))) ((1 : Nat) : Int) = _ := tok_step (e + 4) (by omega) a b c d (score_token.l0 (e + 4) a b c d (e + 2)) 1 (by decide) b rfl ([] ++ (dgs a.toNat ++ [47])) (by simp only [List.length_append, List.length_cons, List.length_nil]; omega)
    by_cases hb : n31 b
    · rw [if_pos hb] at l2
      have db := dg10 (n := b.toNat) (by unfold n31 at hb; omega)
      have l3 : score_token.l0 (e + 4) a b c d (e + 2) (ofl (([] ++ (dgs a.toNat ++ [47])) ++ (dgs b.toNat ++ [47]))) ((2 : Nat) : Int) = _ := tok_step (e + 4) (by omega) a b c d (score_token.l0 (e + 4) a b c d (e + 1)) 2 (by decide) c rfl (([] ++ (dgs a.toNat ++ [47])) ++ (dgs b.toNat ++ [47])) (by simp only [List.length_append, List.length_cons, List.length_nil]; omega)
      by_cases hc : n31 c
      · rw [if_pos hc] at l3
        have dc := dg10 (n := c.toNat) (by unfold n31 at hc; omega)
        have dd := dg10 (n := d.toNat) (by omega)
        rw [if_pos ⟨ha, hb, hc⟩]
        have l4 : score_token.l0 (e + 4) a b c d (e + 1) (ofl ((([] ++ (dgs a.toNat ++ [47])) ++ (dgs b.toNat ++ [47])) ++ (dgs c.toNat ++ [47]))) ((3 : Nat) : Int) = some (.inl (ofl ((([] ++ (dgs a.toNat ++ [47])) ++ (dgs b.toNat ++ [47])) ++ (dgs c.toNat ++ [47])))) := rfl
        refine ⟨ofl (dgs a.toNat ++ 47 :: (dgs b.toNat ++ 47 :: (dgs c.toNat ++ 47 :: dgs d.toNat))), bif_eq_f h1' (bif_eq_f h2' (bif_eq_f h3' (bnd_eq (l1.trans (l2.trans (l3.trans l4))) ?_))), fun u hu => by cases hu; rfl⟩
        rw [kw_i64 (by omega) (by omega)]
        refine bnd_eq (num10 (e + 4) (by omega) hm.1 (by omega)) ?_
        rw [ofl_app]
        refine gd_eq (by rw [ofl_size, ofl_size]; simp only [List.length_append, List.length_cons, List.length_nil]; omega) ?_
        simp
      · rw [if_neg hc] at l3
        rw [if_neg (fun h => hc h.2.2)]
        exact ⟨_, bif_eq_f h1' (bif_eq_f h2' (bif_eq_f h3' (bnd_eq (l1.trans (l2.trans l3)) rfl))), fun u hu => by cases hu⟩
    · rw [if_neg hb] at l2
      rw [if_neg (fun h => hb h.2.1)]
      exact ⟨_, bif_eq_f h1' (bif_eq_f h2' (bif_eq_f h3' (bnd_eq (l1.trans l2) rfl))), fun u hu => by cases hu⟩
  · rw [if_neg ha] at l1
    rw [if_neg (fun h => ha h.1)]
    exact ⟨_, bif_eq_f h1' (bif_eq_f h2' (bif_eq_f h3' (bnd_eq l1 rfl))), fun u hu => by cases hu⟩
end Go.Fo
