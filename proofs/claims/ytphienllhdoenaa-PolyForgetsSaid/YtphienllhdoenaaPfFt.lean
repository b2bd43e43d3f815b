/- What is told hangs on the last ten calls alone: the plain fact. -/
import Derived.Test.YtphienllhdoenaaPfFd
namespace Go.Fo
set_option maxRecDepth 6000

/-- a list in blocks -/
def cutL (m : Nat) (l : List Int) : List (List Int) := tabOf (fun i => (l.drop (i * m)).take m) (l.length / m)
theorem cut_w (K m : Nat) (hm : m = 4 ∨ m = 8) (l : List Int) (hl : l.length ≤ 400) (hK : 300 ≤ K) : psalterylaw08_cut_int16 K l (m : Int) = some (cutL m l) := by
  have hdm : l.length / m * m ≤ l.length := Nat.div_mul_le_self _ _
  have hdb : l.length / m ≤ 100 := by rcases hm with rfl | rfl <;> omega
  refine bnd_eq (x := cutL m l) ?_ rfl
  have := app_loop0 (r := psalterylaw08_cut_int16.r0 K l (m : Int)) (b := fun _ _ => none) (l.length / m) (fun i => (l.drop (i * m)).take m) (fun i => ((i * m : Nat) : Int)) (some (cutL m l)) (fun next k hk => ?_) (fun next => ?_) (K := K) (by omega)
  · rw [Nat.zero_mul] at this; exact this
  · have hk2 : (k + 1) * m ≤ l.length / m * m := Nat.mul_le_mul_right _ hk
    rw [Nat.add_mul, Nat.one_mul] at hk2
    unfold psalterylaw08_cut_int16.r0
    have e1 : kwrap .i64 (((k * m : Nat) : Int) + (m : Int)) = ((k * m + m : Nat) : Int) := by rw [kw_i64 (by omega) (by omega)]; omega
    rw [e1]
    refine bif_eq_t (decide_eq_true (by omega)) ?_
    have hlen : ((l.take (k * m + m)).drop (k * m)).length = m := by rw [List.length_drop, List.length_take]; omega
    rw [Int.toNat_natCast, Int.toNat_natCast]
    dsimp only
    rw [List.nil_append]
    refine gd_eq (by rw [hlen]; simp; omega) ?_
    refine gd_eq (by rw [tabOf_len]; simp; omega) ?_
    rw [tabOf_succ, show ((k + 1) * m : Nat) = k * m + m by rw [Nat.add_mul, Nat.one_mul], List.drop_take, show k * m + m - k * m = m by omega]
  · unfold psalterylaw08_cut_int16.r0
    have hlt : l.length < (l.length / m + 1) * m := by
      have h1 := Nat.div_add_mod l.length m
      have h2 := Nat.mod_lt l.length (y := m) (by omega)
      rw [Nat.add_mul, Nat.one_mul, Nat.mul_comm]; omega
    rw [Nat.add_mul, Nat.one_mul] at hlt
    rw [kw_i64 (x := ((l.length / m * m : Nat) : Int) + (m : Int)) (by omega) (by omega)]
    exact bif_eq_f (decide_eq_false (by omega)) rfl
theorem cutL_at (m : Nat) (hm : m = 4 ∨ m = 8) (l : List Int) : ∀ b ∈ cutL m l, b.length = m := by
  intro b hb
  unfold cutL tabOf at hb
  obtain ⟨i, hi, rfl⟩ := List.mem_map.1 hb
  have hi := List.mem_range.1 hi
  have hdm : l.length / m * m ≤ l.length := Nat.div_mul_le_self _ _
  have hk2 : (i + 1) * m ≤ l.length / m * m := Nat.mul_le_mul_right _ hi
  rw [Nat.add_mul, Nat.one_mul] at hk2
  rw [List.length_take, List.length_drop]; omega

theorem same32_w (K : Nat) (l : List Int) (h : l.length + 1 ≤ K) (hb : l.length ≤ 100000) : psalteryref08_Same32 K l l = some true := by
  unfold psalteryref08_Same32
  refine bif_eq_f (by simp) ?_
  refine bnd_eq (x := .inl ()) ?_ rfl
  refine cnt_loop0 l.length _ (fun next k hk => ?_) (fun next => ?_) h
  · unfold psalteryref08_Same32.r0
    refine bif_eq_t (decide_eq_true (by omega)) ?_
    refine gd_eq (by omega) ?_
    refine gd_eq (by omega) ?_
    refine bif_eq_f (by simp) ?_
    rw [kw_i64 (by omega) (by omega)]; rfl
  · unfold psalteryref08_Same32.r0
    exact bif_eq_f (decide_eq_false (by omega)) rfl

theorem same_w (K : Nat) (l : List Int) (h : l.length + 1 ≤ K) (hb : l.length ≤ 100000) : psalteryref04_Same_4 K l l = some true := by
  unfold psalteryref04_Same_4
  refine bif_eq_f (by simp) ?_
  refine bnd_eq (x := .inl ()) ?_ rfl
  refine cnt_loop0 l.length _ (fun next k hk => ?_) (fun next => ?_) h
  · unfold psalteryref04_Same_4.r0
    refine bif_eq_t (decide_eq_true (by omega)) ?_
    refine gd_eq (by omega) ?_
    refine gd_eq (by omega) ?_
    refine bif_eq_f (by simp) ?_
    rw [kw_i64 (by omega) (by omega)]; rfl
  · unfold psalteryref04_Same_4.r0
    exact bif_eq_f (decide_eq_false (by omega)) rfl

/-- what is new -/
def hP (m : Int) : List Int := match poly_NewSplitter 300 m (List.replicate 388 none) 0 0 with | some (.inr (_, _, _, h, _, _)) => h | _ => []
def tuP (m : Int) : List Int := match poly_NewSplitter 300 m (List.replicate 388 none) 0 0 with | some (.inr (_, _, _, _, u, _)) => u | _ => []
theorem new_ok : ∀ m : Nat, m = 4 ∨ m = 8 → (∃ t a b, poly_NewSplitter 300 (m : Int) (List.replicate 388 none) 0 0 = some (.inr (t, a, b, hP m, tuP m, List.replicate (10 * m) 0))) ∧
    (∃ t a b, poly_NewJoiner 300 (m : Int) (List.replicate 388 none) 0 0 = some (.inr (t, a, b, hP m, tuP m, List.replicate (20 * m) 0))) ∧ (hP m).length = 10 * m ∧ (tuP m).length = 8 * m := by
  intro m hm
  have e : ∀ m : Int, (match poly_NewSplitter 300 m (List.replicate 388 none) 0 0 with | some (.inr (_, _, _, h, u, x)) => h == hP m && u == tuP m && x == List.replicate (10 * m).toNat 0 | _ => false) = true → ∃ t a b, poly_NewSplitter 300 m (List.replicate 388 none) 0 0 = some (.inr (t, a, b, hP m, tuP m, List.replicate (10 * m).toNat 0)) := by
    intro m h
    split at h
    · rename_i t a b h' u x hx
      simp only [Bool.and_eq_true, beq_iff_eq] at h
      obtain ⟨⟨h1, h2⟩, h3⟩ := h
      exact ⟨t, a, b, by rw [hx, h1, h2, h3]⟩
    · cases h
  have f : ∀ m : Int, (match poly_NewJoiner 300 m (List.replicate 388 none) 0 0 with | some (.inr (_, _, _, h, u, x)) => h == hP m && u == tuP m && x == List.replicate (20 * m).toNat 0 | _ => false) = true → ∃ t a b, poly_NewJoiner 300 m (List.replicate 388 none) 0 0 = some (.inr (t, a, b, hP m, tuP m, List.replicate (20 * m).toNat 0)) := by
    intro m h
    split at h
    · rename_i t a b h' u x hx
      simp only [Bool.and_eq_true, beq_iff_eq] at h
      obtain ⟨⟨h1, h2⟩, h3⟩ := h
      exact ⟨t, a, b, by rw [hx, h1, h2, h3]⟩
    · cases h
  rcases hm with rfl | rfl
  · exact ⟨e 4 (by kernel_rfl), f 4 (by kernel_rfl), by kernel_rfl, by kernel_rfl⟩
  · exact ⟨e 8 (by kernel_rfl), f 8 (by kernel_rfl), by kernel_rfl, by kernel_rfl⟩
theorem aliveP_w : psalterylaw08_alive 300 = some true := by kernel_rfl

/-- blocks of nothing -/
def zb (m : Nat) : List Int := List.replicate m 0
theorem zb_len (m : Nat) : (zb m).length = m := by unfold zb; simp
theorem nx_zero (m k : Nat) (X : List Int) : nx m (zb m) ((List.replicate (k * m) 0 ++ X).take (10 * m)) = (List.replicate ((k + 1) * m) 0 ++ X).take (10 * m) := by
  unfold nx zb
  rw [List.map_replicate, show kwrap .i64 0 = 0 from rfl, List.reverse_replicate, List.take_take, Nat.min_eq_left (by omega), Nat.add_mul, Nat.one_mul, Nat.add_comm (k * m) m, ← List.replicate_append_replicate, List.append_assoc]
  have : (List.replicate m (0 : Int) ++ (List.replicate (k * m) 0 ++ X)).take (10 * m) = List.replicate m 0 ++ (List.replicate (k * m) 0 ++ X).take (9 * m) := by
    rw [List.take_append, List.length_replicate, List.take_of_length_le (by simp; omega), show 10 * m - m = 9 * m by omega]
  rw [this]
theorem vk_zero (m : Nat) (hm : m = 4 ∨ m = 8) : tabOf (vk m (tuP m) (zb m)) (2 * m) = List.replicate (2 * m) 0 := by
  rcases hm with rfl | rfl
  · kernel_rfl
  · kernel_rfl
theorem jx_zero (m k : Nat) (hm : m = 4 ∨ m = 8) (V : List Int) : jx m (tuP m) (zb m) ((List.replicate (k * (2 * m)) 0 ++ V).take (20 * m)) = (List.replicate ((k + 1) * (2 * m)) 0 ++ V).take (20 * m) := by
  unfold jx
  rw [vk_zero m hm, List.take_take, Nat.min_eq_left (by omega), Nat.add_mul, Nat.one_mul, Nat.add_comm (k * (2 * m)) (2 * m), ← List.replicate_append_replicate, List.append_assoc]
  have : (List.replicate (2 * m) (0 : Int) ++ (List.replicate (k * (2 * m)) 0 ++ V)).take (20 * m) = List.replicate (2 * m) 0 ++ (List.replicate (k * (2 * m)) 0 ++ V).take (18 * m) := by
    rw [List.take_append, List.length_replicate, List.take_of_length_le (by simp; omega), show 20 * m - 2 * m = 18 * m by omega]
  rw [this]
theorem spl_zero (m : Nat) (hm : m = 4 ∨ m = 8) : spl m (hP m) (tuP m) (List.replicate (10 * m) 0) = List.replicate m 0 := by
  rcases hm with rfl | rfl
  · kernel_rfl
  · kernel_rfl
theorem jnl_zero (m : Nat) (hm : m = 4 ∨ m = 8) : jnl m (hP m) (List.replicate (20 * m) 0) = List.replicate m 0 := by
  rcases hm with rfl | rfl
  · kernel_rfl
  · kernel_rfl
theorem zfull (m k n : Nat) (X : List Int) (h : n ≤ k * m) : (List.replicate (k * m) (0 : Int) ++ X).take n = List.replicate n 0 := by
  rw [List.take_append_of_le_length (by simp; omega), List.take_replicate, Nat.min_eq_left h]

/-- what came ahead, both states -/
def pst2 (m : Nat) (bs : List (List Int)) : Nat → List Int × List Int := accf (fun k p => (nx m (bs.getD k []) p.1, jx m (tuP m) (spl m (hP m) (tuP m) (nx m (bs.getD k []) p.1)) p.2)) (List.replicate (10 * m) 0, List.replicate (20 * m) 0)
theorem spl_len (m : Nat) (h u X : List Int) : (spl m h u X).length = m := tabOf_len _ _
theorem pst2_len (m : Nat) (bs : List (List Int)) (hb : ∀ b ∈ bs, b.length = m) : ∀ k, k ≤ bs.length → (pst2 m bs k).1.length = 10 * m ∧ (pst2 m bs k).2.length = 20 * m
  | 0, _ => by unfold pst2 accf; simp
  | k + 1, h => by
    obtain ⟨i1, i2⟩ := pst2_len m bs hb k (by omega)
    have hbl : (bs.getD k []).length = m := by rw [List.getD_eq_getElem?_getD, List.getElem?_eq_getElem (by omega)]; exact hb _ (List.getElem_mem (by omega))
    exact ⟨nx_len hbl i1, jx_len i2⟩

theorem past_w (m : Nat) (hm : m = 4 ∨ m = 8) (p l z1 z2 : List Int) (bs : List (List Int)) (hn : bs.length ≤ 90) (hb : ∀ b ∈ bs, b.length = m) :
    psalterylaw08_PolyForgets.l2 300 p l (m : Int) bs (bs.length : Int) (hP m) (tuP m) (hP m) (tuP m) (hP m) (tuP m) (hP m) (tuP m) z1 z2 300 0 (List.replicate (10 * m) 0) (List.replicate (20 * m) 0) = some (pst2 m bs bs.length) := by
  obtain ⟨_, _, hh, ht⟩ := new_ok m hm
  have hbl : ∀ k, k < bs.length → (bs.getD k []).length = m := fun k hk => by
    rw [List.getD_eq_getElem?_getD, List.getElem?_eq_getElem hk]; exact hb _ (List.getElem_mem hk)
  refine it2_loop0 bs.length (fun k => (pst2 m bs k).1) (fun k => (pst2 m bs k).2) _ (fun next k hk => ?_) (fun next => ?_) (by omega)
  · unfold psalterylaw08_PolyForgets.r2
    refine bif_eq_t (decide_eq_true (by omega)) ?_
    obtain ⟨l1, l2⟩ := pst2_len m bs hb k (by omega)
    refine bnd_eq (x := pst2 m bs (k + 1)) ?_ ?_
    · refine gd_eq (by omega) ?_
      rw [Int.toNat_natCast]
      refine bnd_eq (feed_w 300 m (by decide) hm (bs.getD k []) (hP m) (tuP m) _ (hbl k hk) hh ht l1) ?_
      exact bnd_eq (jfeed_w 300 m (by decide) hm _ (hP m) (tuP m) _ (spl_len _ _ _ _) hh ht l2) rfl
    · dsimp only
      rw [kw_i64 (x := (k : Int) + 1) (by omega) (by omega)]; rfl
  · unfold psalterylaw08_PolyForgets.r2
    exact bif_eq_f (decide_eq_false (by omega)) rfl
theorem ten_w (m : Nat) (hm : m = 4 ∨ m = 8) (l z1 z2 X V : List Int) (hX : X.length = 10 * m) (hV : V.length = 20 * m) :
    psalterylaw08_PolyForgets.l1 300 l (m : Int) (hP m) (tuP m) (hP m) (tuP m) (hP m) (tuP m) (hP m) (tuP m) z1 z2 300 0 X V = some (.inl (List.replicate (10 * m) 0, List.replicate (20 * m) 0)) := by
  obtain ⟨_, _, hh, ht⟩ := new_ok m hm
  have hX0 : X = (List.replicate (0 * m) 0 ++ X).take (10 * m) := by rw [Nat.zero_mul, List.replicate_zero, List.nil_append, List.take_of_length_le (by omega)]
  have hV0 : V = (List.replicate (0 * (2 * m)) 0 ++ V).take (20 * m) := by rw [Nat.zero_mul, List.replicate_zero, List.nil_append, List.take_of_length_le (by omega)]
  rw [hX0, hV0]
  have lenX : ∀ k, ((List.replicate (k * m) 0 ++ X).take (10 * m)).length = 10 * m := fun k => by rw [List.length_take, List.length_append, hX]; simp
  have lenV : ∀ k, ((List.replicate (k * (2 * m)) 0 ++ V).take (20 * m)).length = 20 * m := fun k => by rw [List.length_take, List.length_append, hV]; simp
  refine it2_loop0 10 (fun k => (List.replicate (k * m) 0 ++ X).take (10 * m)) (fun k => (List.replicate (k * (2 * m)) 0 ++ V).take (20 * m)) _ (fun next k hk => ?_) (fun next => ?_) (K := 300) (by decide)
  · unfold psalterylaw08_PolyForgets.r1
    refine bif_eq_t (decide_eq_true (by omega)) ?_
    rw [Int.toNat_natCast]
    have hz : List.replicate m (0 : Int) = zb m := rfl
    rw [hz]
    refine gd_eq (by omega) ?_
    refine bnd_eq (feed_w 300 m (by decide) hm (zb m) (hP m) (tuP m) _ (zb_len m) hh ht (lenX k)) ?_
    refine gd_eq (by omega) ?_
    refine bnd_eq (jfeed_w 300 m (by decide) hm (zb m) (hP m) (tuP m) _ (zb_len m) hh ht (lenV k)) ?_
    rw [nx_zero, jx_zero m k hm]
    dsimp only
    have hlj : ∀ V, (jnl m (hP m) V).length = m := fun V => tabOf_len _ _
    refine bif_eq_f (by rw [spl_len, hlj]; simp) ?_
    rw [kw_i64 (x := (k : Int) + 1) (by omega) (by omega)]; rfl
  · unfold psalterylaw08_PolyForgets.r1
    refine bif_eq_f (by decide) ?_
    rw [zfull m 10 _ X (Nat.le_refl _), zfull (2 * m) 10 _ V (by omega)]
theorem both_w (m : Nat) (hm : m = 4 ∨ m = 8) (bs : List (List Int)) (hn : bs.length ≤ 90) (hb : ∀ b ∈ bs, b.length = m) :
    psalterylaw08_PolyForgets.l0 300 (m : Int) bs (bs.length : Int) (hP m) (tuP m) (hP m) (tuP m) (hP m) (tuP m) (hP m) (tuP m) 300 0 (List.replicate (10 * m) 0) (List.replicate (10 * m) 0) (List.replicate (20 * m) 0) (List.replicate (20 * m) 0) = some (.inl ()) := by
  obtain ⟨_, _, hh, ht⟩ := new_ok m hm
  have hbl : ∀ k, k < bs.length → (bs.getD k []).length = m := fun k hk => by
    rw [List.getD_eq_getElem?_getD, List.getElem?_eq_getElem hk]; exact hb _ (List.getElem_mem hk)
  refine it4_loop0 bs.length (fun k => (pst2 m bs k).1) (fun k => (pst2 m bs k).1) (fun k => (pst2 m bs k).2) (fun k => (pst2 m bs k).2) _ (fun next k hk => ?_) (fun next => ?_) (by omega)
  · unfold psalterylaw08_PolyForgets.r0
    refine bif_eq_t (decide_eq_true (by omega)) ?_
    obtain ⟨l1, l2⟩ := pst2_len m bs hb k (by omega)
    have hf := feed_w 300 m (by decide) hm (bs.getD k []) (hP m) (tuP m) _ (hbl k hk) hh ht l1
    have hj := jfeed_w 300 m (by decide) hm (spl m (hP m) (tuP m) (nx m (bs.getD k []) (pst2 m bs k).1)) (hP m) (tuP m) _ (spl_len _ _ _ _) hh ht l2
    refine bnd_eq (x := .inl (spl m (hP m) (tuP m) (nx m (bs.getD k []) (pst2 m bs k).1), spl m (hP m) (tuP m) (nx m (bs.getD k []) (pst2 m bs k).1), true, false, (pst2 m bs (k + 1)).1, (pst2 m bs (k + 1)).1, (pst2 m bs (k + 1)).2, (pst2 m bs (k + 1)).2)) ?_ ?_
    · refine gd_eq (by omega) ?_
      rw [Int.toNat_natCast]
      refine bnd_eq hf ?_
      refine bnd_eq hf ?_
      refine bnd_eq (same32_w 300 _ (by rw [spl_len]; omega) (by rw [spl_len]; omega)) ?_
      refine bif_eq_f rfl ?_
      refine bnd_eq hj ?_
      refine bnd_eq hj ?_
      have hlj : ∀ V, (jnl m (hP m) V).length = m := fun V => tabOf_len _ _
      refine bnd_eq (x := false) ?_ rfl
      refine bif_eq_f (by rw [hlj]; simp) ?_
      exact bnd_eq (same_w 300 _ (by rw [hlj]; omega) (by rw [hlj]; omega)) rfl
    · dsimp only
      rw [kw_i64 (x := (k : Int) + 1) (by omega) (by omega)]; rfl
  · unfold psalterylaw08_PolyForgets.r0
    exact bif_eq_f (decide_eq_false (by omega)) rfl
theorem polyForgets_w (e : Bool) (p l : List Int) : psalterylaw08_PolyForgets 300 e p l = some true := by
  refine bnd_eq aliveP_w ?_
  refine bif_eq_f rfl ?_
  by_cases hl : (p.length : Int) > 300 ∨ (l.length : Int) > 100
  · refine bif_eq_t ?_ rfl
    rcases hl with h | h
    · rw [decide_eq_true h]; rfl
    · rw [decide_eq_true h]; cases decide ((p.length : Int) > 300) <;> rfl
  refine bif_eq_f (by rw [decide_eq_false (fun h => hl (.inl h)), decide_eq_false (fun h => hl (.inr h))]; rfl) ?_
  have hp : p.length ≤ 300 := by omega
  have hl2 : l.length ≤ 100 := by omega
  have hmain : ∀ m : Nat, m = 4 ∨ m = 8 → (∃ t a b, poly_NewSplitter 300 (m : Int) (List.replicate 388 none) 0 0 = some (.inr (t, a, b, hP m, tuP m, List.replicate (10 * m) 0))) ∧ (∃ t a b, poly_NewJoiner 300 (m : Int) (List.replicate 388 none) 0 0 = some (.inr (t, a, b, hP m, tuP m, List.replicate (20 * m) 0))) ∧
      psalterylaw08_cut_int16 300 p (m : Int) = some (cutL m p) ∧ psalterylaw08_cut_int16 300 l (m : Int) = some (cutL m l) ∧
      psalterylaw08_PolyForgets.l2 300 p l (m : Int) (cutL m p) ((cutL m p).length : Int) (hP m) (tuP m) (hP m) (tuP m) (hP m) (tuP m) (hP m) (tuP m) (List.replicate (10 * m) 0) (List.replicate (20 * m) 0) 300 0 (List.replicate (10 * m) 0) (List.replicate (20 * m) 0) = some (pst2 m (cutL m p) (cutL m p).length) ∧
      (pst2 m (cutL m p) (cutL m p).length).1.length = 10 * m ∧ (pst2 m (cutL m p) (cutL m p).length).2.length = 20 * m ∧
      psalterylaw08_PolyForgets.l0 300 (m : Int) (cutL m l) ((cutL m l).length : Int) (hP m) (tuP m) (hP m) (tuP m) (hP m) (tuP m) (hP m) (tuP m) 300 0 (List.replicate (10 * m) 0) (List.replicate (10 * m) 0) (List.replicate (20 * m) 0) (List.replicate (20 * m) 0) = some (.inl ()) := by
    intro m hm
    obtain ⟨n1, n2, _, _⟩ := new_ok m hm
    have hcl : ∀ l : List Int, l.length ≤ 300 → (cutL m l).length ≤ 90 := fun l hl => by
      unfold cutL; rw [tabOf_len]
      rcases hm with rfl | rfl <;> omega
    obtain ⟨l1, l2⟩ := pst2_len m (cutL m p) (cutL_at m hm p) _ (Nat.le_refl _)
    exact ⟨n1, n2, cut_w 300 m hm p (by omega) (by decide), cut_w 300 m hm l (by omega) (by decide), past_w m hm p l _ _ _ (hcl p hp) (cutL_at m hm p), l1, l2, both_w m hm _ (hcl l (by omega)) (cutL_at m hm l)⟩
  have fin : ∀ m : Nat, m = 4 ∨ m = 8 → ∀ X V : List Int, X.length = 10 * m → V.length = 20 * m →
      ((bif (Int.tmod (p.length : Int) 2 == 0) then
                      (poly_Splitter_Reset 300 (m : Int) (hP m) (tuP m) X).bind fun r467 =>
                      (poly_Joiner_Reset 300 (m : Int) (hP m) (tuP m) V).bind fun r468 =>
                      some (.inl (r467, r468))
                    else
                      (psalterylaw08_PolyForgets.l1 300 l (m : Int) (hP m) (tuP m) (hP m) (tuP m) (hP m) (tuP m) (hP m) (tuP m) (List.replicate (10 * m) 0) (List.replicate (20 * m) 0) 300 0 X V : Option (((List (Int)) × (List (Int))) ⊕ (Bool))).bind fun z => match z with
                      | .inl (x499, x500) =>
                        some (.inl (x499, x500))
                      | .inr r =>
                        some (.inr r)) : Option (((List (Int)) × (List (Int))) ⊕ (Bool))) = some (.inl (List.replicate (10 * m) 0, List.replicate (20 * m) 0)) := by
    intro m hm X V hX hV
    cases hb : (Int.tmod (p.length : Int) 2 == 0) with
    | true =>
      refine bif_eq_t rfl ?_
      refine bnd_eq (x := List.replicate (10 * m) 0) (by unfold poly_Splitter_Reset; rw [hX]) ?_
      exact bnd_eq (x := List.replicate (20 * m) 0) (by unfold poly_Joiner_Reset; rw [hV]) rfl
    | false =>
      refine bif_eq_f rfl ?_
      exact bnd_eq (ten_w m hm l _ _ X V hX hV) rfl
  cases e with
  | true =>
    obtain ⟨⟨t, a, b, n1⟩, ⟨t', a', b', n2⟩, c, d, q, l1, l2, o⟩ := hmain 8 (.inr rfl)
    refine bnd_eq (x := (8 : Int)) rfl (bnd_eq (x := ()) rfl (bnd_eq n1 (bnd_eq (x := ()) rfl (bnd_eq n1 (bnd_eq (x := ()) rfl (bnd_eq n2 (bnd_eq (x := ()) rfl (bnd_eq n2 (bnd_eq c (bnd_eq q (bnd_eq (fin 8 (.inr rfl) _ _ l1 l2) (bnd_eq d (bnd_eq o rfl)))))))))))))
  | false =>
    obtain ⟨⟨t, a, b, n1⟩, ⟨t', a', b', n2⟩, c, d, q, l1, l2, o⟩ := hmain 4 (.inl rfl)
    refine bnd_eq (x := (4 : Int)) rfl (bnd_eq (x := ()) rfl (bnd_eq n1 (bnd_eq (x := ()) rfl (bnd_eq n1 (bnd_eq (x := ()) rfl (bnd_eq n2 (bnd_eq (x := ()) rfl (bnd_eq n2 (bnd_eq c (bnd_eq q (bnd_eq (fin 4 (.inl rfl) _ _ l1 l2) (bnd_eq d (bnd_eq o rfl)))))))))))))
end Go.Fo
