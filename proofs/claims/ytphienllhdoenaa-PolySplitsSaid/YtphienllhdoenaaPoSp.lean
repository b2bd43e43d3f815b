/- What a splitter tells is what the document says: the plain fact. -/
import Derived.Test.YtphienllhdoenaaPoFd
namespace Go.Fo
set_option maxRecDepth 6000

/-- a list in blocks -/
def cutL (m : Nat) (l : List Int) : List (List Int) := tabOf (fun i => (l.drop (i * m)).take m) (l.length / m)
theorem cut_w (K m : Nat) (hm : m = 4 ∨ m = 8) (l : List Int) (hl : l.length ≤ 400) (hK : 300 ≤ K) : psalterylaw08_cut_int16 K l (m : Int) = some (cutL m l) := by
  have hdm : l.length / m * m ≤ l.length := Nat.div_mul_le_self _ _
  have hdb : l.length / m ≤ 100 := by rcases hm with rfl | rfl <;> omega
  refine bnd_eq (x := cutL m l) ?_ rfl
  have := app_loop0 (r := psalterylaw08_cut_int16.r0 K l (m : Int)) (b := fun _ _ => none) (l.length / m) (fun i => (l.drop (i * m)).take m) (fun i => ((i * m : Nat) : Int)) (some (cutL m l)) (fun next k hk => ?_) (fun next => ?_) (K := K) (by omega)
  · rw [Nat.zero_mul] at this; exact this
  · have hk2 : (k + 1) * m ≤ l.length / m * m := Nat.mul_le_mul_right _ hk
    rw [Nat.add_mul, Nat.one_mul] at hk2
    unfold psalterylaw08_cut_int16.r0
    have e1 : kwrap .i64 (((k * m : Nat) : Int) + (m : Int)) = ((k * m + m : Nat) : Int) := by rw [kw_i64 (by omega) (by omega)]; omega
    rw [e1]
    refine bif_eq_t (decide_eq_true (by omega)) ?_
    have hlen : ((l.take (k * m + m)).drop (k * m)).length = m := by rw [List.length_drop, List.length_take]; omega
    rw [Int.toNat_natCast, Int.toNat_natCast]
    dsimp only
    rw [List.nil_append]
    refine gd_eq (by rw [hlen]; simp; omega) ?_
    refine gd_eq (by rw [tabOf_len]; simp; omega) ?_
    rw [tabOf_succ, show ((k + 1) * m : Nat) = k * m + m by rw [Nat.add_mul, Nat.one_mul], List.drop_take, show k * m + m - k * m = m by omega]
  · unfold psalterylaw08_cut_int16.r0
    have hlt : l.length < (l.length / m + 1) * m := by
      have h1 := Nat.div_add_mod l.length m
      have h2 := Nat.mod_lt l.length (y := m) (by omega)
      rw [Nat.add_mul, Nat.one_mul, Nat.mul_comm]; omega
    rw [Nat.add_mul, Nat.one_mul] at hlt
    rw [kw_i64 (x := ((l.length / m * m : Nat) : Int) + (m : Int)) (by omega) (by omega)]
    exact bif_eq_f (decide_eq_false (by omega)) rfl
theorem cutL_at (m : Nat) (hm : m = 4 ∨ m = 8) (l : List Int) : ∀ b ∈ cutL m l, b.length = m := by
  intro b hb
  unfold cutL tabOf at hb
  obtain ⟨i, hi, rfl⟩ := List.mem_map.1 hb
  have hi := List.mem_range.1 hi
  have hdm : l.length / m * m ≤ l.length := Nat.div_mul_le_self _ _
  have hk2 : (i + 1) * m ≤ l.length / m * m := Nat.mul_le_mul_right _ hi
  rw [Nat.add_mul, Nat.one_mul] at hk2
  rw [List.length_take, List.length_drop]; omega

theorem same32_w (K : Nat) (l : List Int) (h : l.length + 1 ≤ K) (hb : l.length ≤ 100000) : psalteryref08_Same32 K l l = some true := by
  unfold psalteryref08_Same32
  refine bif_eq_f (by simp) ?_
  refine bnd_eq (x := .inl ()) ?_ rfl
  refine cnt_loop0 l.length _ (fun next k hk => ?_) (fun next => ?_) h
  · unfold psalteryref08_Same32.r0
    refine bif_eq_t (decide_eq_true (by omega)) ?_
    refine gd_eq (by omega) ?_
    refine gd_eq (by omega) ?_
    refine bif_eq_f (by simp) ?_
    rw [kw_i64 (by omega) (by omega)]; rfl
  · unfold psalteryref08_Same32.r0
    exact bif_eq_f (decide_eq_false (by omega)) rfl

/-- what a new splitter has -/
def hP (m : Int) : List Int := match poly_NewSplitter 300 m (List.replicate 388 none) 0 0 with | some (.inr (_, _, _, h, _, _)) => h | _ => []
def tuP (m : Int) : List Int := match poly_NewSplitter 300 m (List.replicate 388 none) 0 0 with | some (.inr (_, _, _, _, u, _)) => u | _ => []
def hT : Nat → List Int | 4 => hP 4 | _ => hP 8
theorem new_ok : ∀ m : Nat, m = 4 ∨ m = 8 → (∃ t a b, poly_NewSplitter 300 (m : Int) (List.replicate 388 none) 0 0 = some (.inr (t, a, b, hP m, tuP m, List.replicate (10 * m) 0))) ∧ (hP m).length = 10 * m ∧ (tuP m).length = 8 * m ∧ psalteryref04_Filter 300 (m : Int) = some (.inr (hP m)) ∧
    ((List.range m).all fun i => (List.range (2 * m)).all fun j => psalteryref08_wave 300 (2 * (i : Int) + 1) (2 * (j : Int) - (m : Int)) (m : Int) == some (wv m (tuP m) (2 * (i : Int) + 1) (2 * (j : Int) - (m : Int)))) = true := by
  intro m hm
  have e : ∀ m : Int, (match poly_NewSplitter 300 m (List.replicate 388 none) 0 0 with | some (.inr (_, _, _, h, u, x)) => h == hP m && u == tuP m && x == List.replicate (10 * m).toNat 0 | _ => false) = true → ∃ t a b, poly_NewSplitter 300 m (List.replicate 388 none) 0 0 = some (.inr (t, a, b, hP m, tuP m, List.replicate (10 * m).toNat 0)) := by
    intro m h
    split at h
    · rename_i t a b h' u x hx
      simp only [Bool.and_eq_true, beq_iff_eq] at h
      obtain ⟨⟨h1, h2⟩, h3⟩ := h
      exact ⟨t, a, b, by rw [hx, h1, h2, h3]⟩
    · cases h
  rcases hm with rfl | rfl
  · exact ⟨e 4 (by kernel_rfl), by kernel_rfl, by kernel_rfl, by kernel_rfl, by kernel_rfl⟩
  · exact ⟨e 8 (by kernel_rfl), by kernel_rfl, by kernel_rfl, by kernel_rfl, by kernel_rfl⟩
theorem aliveP_w : psalterylaw08_alive 300 = some true := by kernel_rfl

/-- all samples so far, the newest first -/
def rvs (bs : List (List Int)) : List Int := (bs.flatten.map (kwrap .i64)).reverse
def stt (m : Nat) (bs : List (List Int)) : List Int := (rvs bs ++ List.replicate (10 * m) 0).take (10 * m)
theorem stt_len (m : Nat) (bs : List (List Int)) : (stt m bs).length = 10 * m := by unfold stt; simp
theorem rvs_app (bs : List (List Int)) (b : List Int) : rvs (bs ++ [b]) = (b.map (kwrap .i64)).reverse ++ rvs bs := by unfold rvs; simp
theorem nx_stt (m : Nat) (bs : List (List Int)) (b : List Int) (hb : b.length = m) : nx m b (stt m bs) = stt m (bs ++ [b]) := by
  have hl : ((b.map (kwrap .i64)).reverse).length = m := by simp [hb]
  unfold nx stt
  have e1 : ((rvs bs ++ List.replicate (10 * m) 0).take (10 * m)).take (9 * m) = (rvs bs ++ List.replicate (10 * m) 0).take (9 * m) := by rw [List.take_take, Nat.min_eq_left (by omega)]
  have e2 : ((b.map (kwrap .i64)).reverse ++ (rvs bs ++ List.replicate (10 * m) 0)).take (10 * m) = (b.map (kwrap .i64)).reverse ++ (rvs bs ++ List.replicate (10 * m) 0).take (9 * m) := by
    rw [List.take_append, hl, List.take_of_length_le (by omega), show 10 * m - m = 9 * m by omega]
  rw [e1, rvs_app, List.append_assoc, e2]
theorem rvs_cons (b : List Int) (bs : List (List Int)) : rvs (b :: bs) = rvs bs ++ (b.map (kwrap .i64)).reverse := by unfold rvs; simp
theorem rvs_len (m : Nat) : ∀ bs : List (List Int), (∀ b ∈ bs, b.length = m) → (rvs bs).length = bs.length * m
  | [], _ => by simp [rvs]
  | b :: bs, h => by
    rw [rvs_cons, List.length_append, rvs_len m bs (fun x hx => h x (List.mem_cons_of_mem _ hx)), List.length_reverse, List.length_map, h b (List.mem_cons_self ..), List.length_cons, Nat.add_mul, Nat.one_mul]

theorem ref_in (K m : Nat) (bs : List (List Int)) (hK : 100 ≤ K) (hm : m = 4 ∨ m = 8) (hn : bs.length ≤ 60) (hb : ∀ b ∈ bs, b.length = m) :
    psalteryref08_Split.l9 K bs (m : Int) K ((bs.length : Int) - 1) [] = some (rvs bs) := by
  have key : ∀ (k : Nat), k ≤ bs.length → ∀ e : Nat, psalteryref08_Split.l9 K bs (m : Int) (k + e + 1) ((k : Int) - 1) (rvs (bs.drop k)) = some (rvs bs) := by
    intro k
    induction k with
    | zero =>
      intro _ e
      show psalteryref08_Split.r9 K bs (m : Int) (psalteryref08_Split.l9 K bs (m : Int) (0 + e)) (((0 : Nat) : Int) - 1) (rvs (bs.drop 0)) = _
      unfold psalteryref08_Split.r9
      exact bif_eq_f (decide_eq_false (by omega)) rfl
    | succ k ih =>
      intro hk e
      show psalteryref08_Split.r9 K bs (m : Int) (psalteryref08_Split.l9 K bs (m : Int) (k + 1 + e)) (((k + 1 : Nat) : Int) - 1) (rvs (bs.drop (k + 1))) = _
      have ek : ((k + 1 : Nat) : Int) - 1 = (k : Int) := by omega
      rw [ek]
      unfold psalteryref08_Split.r9
      refine bif_eq_t (decide_eq_true (by omega)) ?_
      have hmem : bs[k] ∈ bs := List.getElem_mem (by omega)
      have hbl := hb _ hmem
      have hnth : Kd.nth (.slice (.int .i16)) bs k = bs[k] := by unfold Kd.nth; rw [List.getD_eq_getElem?_getD, List.getElem?_eq_getElem (by omega)]; rfl
      have hrl : (rvs (bs.drop (k + 1))).length ≤ 480 := by
        rw [rvs_len m _ (fun b hb' => hb b (List.mem_of_mem_drop hb')), List.length_drop]
        rcases hm with rfl | rfl <;> omega
      have inner : ∀ (q : Nat), q ≤ m → ∀ e : Nat, psalteryref08_Split.l10 K bs (m : Int) (k : Int) (q + e + 1) ((q : Int) - 1) (rvs (bs.drop (k + 1)) ++ ((bs[k].drop q).map (kwrap .i64)).reverse) = some (rvs (bs.drop (k + 1)) ++ (bs[k].map (kwrap .i64)).reverse) := by
        intro q
        induction q with
        | zero =>
          intro _ e
          show psalteryref08_Split.r10 K bs (m : Int) (k : Int) (psalteryref08_Split.l10 K bs (m : Int) (k : Int) (0 + e)) (((0 : Nat) : Int) - 1) _ = _
          unfold psalteryref08_Split.r10
          exact bif_eq_f (decide_eq_false (by omega)) rfl
        | succ q ihq =>
          intro hq e
          show psalteryref08_Split.r10 K bs (m : Int) (k : Int) (psalteryref08_Split.l10 K bs (m : Int) (k : Int) (q + 1 + e)) (((q + 1 : Nat) : Int) - 1) _ = _
          have eq1 : ((q + 1 : Nat) : Int) - 1 = (q : Int) := by omega
          rw [eq1]
          unfold psalteryref08_Split.r10
          refine bif_eq_t (decide_eq_true (by omega)) ?_
          rw [Int.toNat_natCast, Int.toNat_natCast, hnth]
          dsimp only
          have hn2 : Kd.nth (.int .i16) bs[k] q = bs[k][q]'(by omega) := by unfold Kd.nth; rw [List.getD_eq_getElem?_getD, List.getElem?_eq_getElem (by omega)]; rfl
          rw [hn2]
          refine gd_eq (by
            simp only [List.length_append, List.length_reverse, List.length_map, List.length_drop, List.length_cons, List.length_nil]
            omega) ?_
          have hcat : rvs (bs.drop (k + 1)) ++ ((bs[k].drop (q + 1)).map (kwrap .i64)).reverse ++ [kwrap .i64 (bs[k][q]'(by omega))] = rvs (bs.drop (k + 1)) ++ ((bs[k].drop q).map (kwrap .i64)).reverse := by
            rw [List.drop_eq_getElem_cons (l := bs[k]) (i := q) (by omega), List.map_cons, List.reverse_cons, List.append_assoc]
          rw [hcat, kw_i64 (x := (q : Int) - 1) (by omega) (by omega), show q + 1 + e = q + e + 1 by omega]
          exact ihq (by omega) e
      obtain ⟨e', he'⟩ : ∃ e', K = m + e' + 1 := ⟨K - m - 1, by omega⟩
      have h10 := inner m (Nat.le_refl _) e'
      have hd0 : bs[k].drop m = [] := List.drop_of_length_le (by omega)
      rw [hd0, List.map_nil, List.reverse_nil, List.append_nil, ← he'] at h10
      rw [kw_i64 (x := (m : Int) - 1) (by omega) (by omega)]
      refine bnd_eq h10 ?_
      rw [kw_i64 (x := (k : Int) - 1) (by omega) (by omega), ← rvs_cons, show bs[k] :: bs.drop (k + 1) = bs.drop k from (List.drop_eq_getElem_cons (by omega)).symm, show k + 1 + e = k + e + 1 by omega]
      exact ih (by omega) e
  obtain ⟨e, he⟩ : ∃ e, K = bs.length + e + 1 := ⟨K - bs.length - 1, by omega⟩
  have := key bs.length (Nat.le_refl _) e
  rw [List.drop_of_length_le (Nat.le_refl _), ← he] at this
  exact this

theorem ref_pad (K m : Nat) (hK : 200 ≤ K) (hm : m = 4 ∨ m = 8) (R : List Int) (hR : R.length ≤ 480) : psalteryref08_Split.l8 K (m : Int) K R = some (R ++ List.replicate (10 * m - R.length) 0) := by
  have key : ∀ (q : Nat) (x : List Int), x.length ≤ 480 → 10 * m - x.length = q → ∀ e : Nat, psalteryref08_Split.l8 K (m : Int) (q + e + 1) x = some (x ++ List.replicate q 0) := by
    intro q
    induction q with
    | zero =>
      intro x _ hx e
      show psalteryref08_Split.r8 K (m : Int) (psalteryref08_Split.l8 K (m : Int) (0 + e)) x = _
      unfold psalteryref08_Split.r8
      rw [kw_i64 (x := 10 * (m : Int)) (by omega) (by omega), List.replicate_zero, List.append_nil]
      exact bif_eq_f (decide_eq_false (by omega)) rfl
    | succ q ih =>
      intro x hb hx e
      show psalteryref08_Split.r8 K (m : Int) (psalteryref08_Split.l8 K (m : Int) (q + 1 + e)) x = _
      unfold psalteryref08_Split.r8
      rw [kw_i64 (x := 10 * (m : Int)) (by omega) (by omega)]
      refine bif_eq_t (decide_eq_true (by omega)) ?_
      refine gd_eq (by simp; omega) ?_
      rw [show q + 1 + e = q + e + 1 by omega, ih (x ++ [0]) (by simp; omega) (by simp; omega) e, List.append_assoc]; rfl
  obtain ⟨e, he⟩ : ∃ e, K = (10 * m - R.length) + e + 1 := ⟨K - (10 * m - R.length) - 1, by omega⟩
  have := key _ R hR rfl e
  rw [← he] at this
  exact this

theorem rsat_w (K : Nat) (x : Int) : psalteryref01_Sat K x 32 = some (sat32v x) := by
  unfold psalteryref01_Sat
  have e3 : kwrap .i64 (kshl .i64 1 (kwrap .u64 (kwrap .i64 (32 - 1))) - 1) = 2147483647 := by decide
  dsimp only
  rw [e3]
  refine gd_eq (by decide) ?_
  unfold sat32v
  by_cases a : x > 2147483647
  · rw [if_neg (by omega), if_pos a]; exact bif_eq_t (decide_eq_true a) rfl
  · refine bif_eq_f (decide_eq_false a) ?_
    have e7 : kwrap .i64 (kwrap .i64 (0 - 2147483647) - 1) = -2147483648 := by decide
    rw [e7]
    by_cases b : x < -2147483648
    · rw [if_pos b]; exact bif_eq_t (decide_eq_true b) rfl
    · rw [if_neg b, if_neg a]; exact bif_eq_f (decide_eq_false b) rfl
theorem rrd_w (K : Nat) {n s : Int} (h0 : -9223372036854775808 ≤ n) (h1 : n ≤ 9223372036854775807) (hs : 2 ≤ s) (hs2 : s ≤ 62) : psalteryref08_round K n s = some (sat32v (rnd n s.toNat)) :=
  bnd_eq (rround_w K h0 h1 hs hs2) (bnd_eq (rsat_w K _) rfl)

/-- the document's sum is the program's -/
theorem sum5 (t0 t1 t2 t3 t4 : Int) : kwrap .i64 (kwrap .i64 (kwrap .i64 (kwrap .i64 (kwrap .i64 (0 + kwrap .i64 (0 - kwrap .i64 t0)) + kwrap .i64 t1) + kwrap .i64 (0 - kwrap .i64 t2)) + kwrap .i64 t3) + kwrap .i64 (0 - kwrap .i64 t4)) =
    kwrap .i64 (0 - kwrap .i64 (kwrap .i64 t4 - kwrap .i64 (kwrap .i64 t3 - kwrap .i64 (kwrap .i64 t2 - kwrap .i64 (kwrap .i64 t1 - kwrap .i64 (kwrap .i64 t0 - 0)))))) := by
  simp only [kw_add_l, kw_add_r, kw_sub_l, kw_sub_r]
  congr 1; omega
theorem ref_y (K m : Nat) (hK : 100 ≤ K) (hm : m = 4 ∨ m = 8) (h x X : List Int) (hh : h.length = 10 * m) (hx : 10 * m ≤ x.length) (hX : X = x.take (10 * m)) :
    psalteryref08_Split.l6 K (m : Int) h x K 0 [] = some (tabOf (yv m h X) (2 * m)) := by
  have hg : ∀ i, i < 10 * m → X.getD i 0 = x.getD i 0 := fun i hi => by rw [hX, List.getD_eq_getElem?_getD, List.getElem?_take, if_pos hi, ← List.getD_eq_getElem?_getD]
  have := app_loop0 (r := psalteryref08_Split.r6 K (m : Int) h x) (b := fun _ _ => none) (2 * m) (yv m h X) (fun i => (i : Int)) (some (tabOf (yv m h X) (2 * m))) (fun next j hj => ?_) (fun next => ?_) (K := K) (by omega)
  · exact this
  · unfold psalteryref08_Split.r6
    rw [kw_i64 (x := 2 * (m : Int)) (by omega) (by omega)]
    refine bif_eq_t (decide_eq_true (by omega)) ?_
    let T : Nat → Int := fun k => kwrap .i64 (x.getD (j + 2 * m * k) 0 * kwrap .i64 (h.getD (j + 2 * m * k) 0))
    let g : Nat → Int → Int := fun k s => kwrap .i64 (s + if k % 2 = 0 then kwrap .i64 (0 - T k) else T k)
    have hs5 : accf g 0 5 = kwrap .i64 (0 - sacc m h X j) := by
      have hT : ∀ k, k < 5 → X.getD (j + 2 * m * k) 0 = x.getD (j + 2 * m * k) 0 := fun k hk => hg _ (by rcases hm with rfl | rfl <;> omega)
      have e : sacc m h X j = accf (fun k s => kwrap .i64 (T k - s)) 0 5 := by
        unfold sacc
        exact accf_cg 5 fun k hk s => by rw [hT k hk]
      rw [e]
      exact sum5 (x.getD (j + 2 * m * 0) 0 * kwrap .i64 (h.getD (j + 2 * m * 0) 0)) (x.getD (j + 2 * m * 1) 0 * kwrap .i64 (h.getD (j + 2 * m * 1) 0)) (x.getD (j + 2 * m * 2) 0 * kwrap .i64 (h.getD (j + 2 * m * 2) 0)) (x.getD (j + 2 * m * 3) 0 * kwrap .i64 (h.getD (j + 2 * m * 3) 0)) (x.getD (j + 2 * m * 4) 0 * kwrap .i64 (h.getD (j + 2 * m * 4) 0))
    have h7 : psalteryref08_Split.l7 K (m : Int) h (j : Int) x (tabOf (yv m h X) j) K 0 0 = some (accf g 0 5) := by
      refine acc_loop0 5 g 0 _ (fun next k s hk => ?_) (fun next => ?_) (by omega)
      · unfold psalteryref08_Split.r7
        refine bif_eq_t (decide_eq_true (by omega)) ?_
        have hb : j + 2 * m * k < 10 * m := by rcases hm with rfl | rfl <;> omega
        have e0 : (2 * (m : Int)) * (k : Int) = ((2 * m * k : Nat) : Int) := by simp
        rw [kw_i64 (x := 2 * (m : Int)) (by omega) (by omega)]
        dsimp only
        rw [e0, kw_i64 (x := ((2 * m * k : Nat) : Int)) (by omega) (by omega), kw_i64 (x := (j : Int) + ((2 * m * k : Nat) : Int)) (by omega) (by omega)]
        refine gd_eq (by omega) ?_
        refine gd_eq (by omega) ?_
        refine gd_eq (by rw [hh]; omega) ?_
        rw [show ((j : Int) + ((2 * m * k : Nat) : Int)).toNat = j + 2 * m * k by omega]
        have em : Int.tmod (k : Int) 2 = ((k % 2 : Nat) : Int) := by rw [Int.tmod_eq_emod_of_nonneg (by omega)]; omega
        refine bnd_eq (x := if k % 2 = 0 then kwrap .i64 (0 - T k) else T k) ?_ ?_
        · rw [em]
          by_cases hz : k % 2 = 0
          · rw [if_pos hz, hz]; rfl
          · rw [if_neg hz, show k % 2 = 1 by omega]; rfl
        · rw [kw_i64 (x := (k : Int) + 1) (by omega) (by omega)]; rfl
      · unfold psalteryref08_Split.r7
        exact bif_eq_f (by decide) rfl
    refine bnd_eq h7 ?_
    rw [hs5]
    obtain ⟨b1, b2⟩ := kwb (0 - sacc m h X j)
    refine bnd_eq (rrd_w K b1 b2 (by decide) (by decide)) ?_
    refine gd_eq (by rw [tabOf_len]; simp; omega) ?_
    rw [kw_i64 (x := (j : Int) + 1) (by omega) (by omega), tabOf_succ]
    rfl
  · unfold psalteryref08_Split.r6
    rw [kw_i64 (x := 2 * (m : Int)) (by omega) (by omega)]
    exact bif_eq_f (decide_eq_false (by omega)) rfl

theorem ref_o (m : Nat) (hm : m = 4 ∨ m = 8) (turn Y : List Int) (s : Int) (hs : s = 16 + (m : Int) / 4) (hY : Y.length = 2 * m)
    (hw : ((List.range m).all fun i => (List.range (2 * m)).all fun j => psalteryref08_wave 300 (2 * (i : Int) + 1) (2 * (j : Int) - (m : Int)) (m : Int) == some (wv m turn (2 * (i : Int) + 1) (2 * (j : Int) - (m : Int)))) = true) :
    psalteryref08_Split.l4 300 (m : Int) s Y 300 0 [] = some (tabOf (ov m turn Y) m) := by
  have := app_loop0 (r := psalteryref08_Split.r4 300 (m : Int) s Y) (b := fun _ _ => none) m (ov m turn Y) (fun i => (i : Int)) (some (tabOf (ov m turn Y) m)) (fun next i hi => ?_) (fun next => ?_) (K := 300) (by omega)
  · exact this
  · unfold psalteryref08_Split.r4
    refine bif_eq_t (decide_eq_true (by omega)) ?_
    refine bnd_eq (x := oacc m turn Y i) ?_ ?_
    · refine acc_loop0 (2 * m) (fun j s => kwrap .i64 (s + kwrap .i64 (Y.getD j 0 * wv m turn (2 * (i : Int) + 1) (2 * (j : Int) - (m : Int))))) 0 _ (fun next j s' hj => ?_) (fun next => ?_) (by omega)
      · unfold psalteryref08_Split.r5
        rw [kw_i64 (x := 2 * (m : Int)) (by omega) (by omega)]
        refine bif_eq_t (decide_eq_true (by omega)) ?_
        refine gd_eq (by rw [hY]; omega) ?_
        refine gd_eq (by rw [hY]; omega) ?_
        rw [kw_i64 (x := 2 * (i : Int)) (by omega) (by omega)]
        dsimp only
        rw [kw_i64 (x := 2 * (i : Int) + 1) (by omega) (by omega), kw_i64 (x := 2 * (j : Int)) (by omega) (by omega), kw_i64 (x := 2 * (j : Int) - (m : Int)) (by omega) (by omega)]
        have hwv := beq_iff_eq.1 (List.all_eq_true.1 (List.all_eq_true.1 hw i (List.mem_range.2 hi)) j (List.mem_range.2 hj))
        refine bnd_eq hwv ?_
        rw [kw_i64 (x := (j : Int) + 1) (by omega) (by omega), Int.toNat_natCast]
        rfl
      · unfold psalteryref08_Split.r5
        rw [kw_i64 (x := 2 * (m : Int)) (by omega) (by omega)]
        exact bif_eq_f (decide_eq_false (by omega)) rfl
    · have hb : -9223372036854775808 ≤ oacc m turn Y i ∧ oacc m turn Y i ≤ 9223372036854775807 := by
        unfold oacc
        obtain ⟨q, hq⟩ : ∃ q, 2 * m = q + 1 := ⟨2 * m - 1, by omega⟩
        rw [hq]; exact kwb _
      refine bnd_eq (rrd_w 300 hb.1 hb.2 (by omega) (by omega)) ?_
      have hs2 := sat32v_b (rnd (oacc m turn Y i) s.toNat)
      rw [kw_i32 hs2.1 hs2.2]
      refine gd_eq (by rw [tabOf_len]; simp; omega) ?_
      rw [kw_i64 (x := (i : Int) + 1) (by omega) (by omega), tabOf_succ]
      have : s.toNat = 16 + m / 4 := by omega
      rw [this]
      rfl
  · unfold psalteryref08_Split.r4
    exact bif_eq_f (decide_eq_false (by omega)) rfl

theorem split_w (m : Nat) (hm : m = 4 ∨ m = 8) (bs : List (List Int)) (hn : bs.length ≤ 60) (hb : ∀ b ∈ bs, b.length = m) (h1 : 1 ≤ bs.length) : psalteryref08_Split 300 bs (m : Int) = some (spl m (hP m) (tuP m) (stt m bs)) := by
  obtain ⟨_, hh, ht, hf, hw⟩ := new_ok m hm
  unfold psalteryref08_Split
  rw [kw_i64 (x := (bs.length : Int) - 1) (by omega) (by omega)]
  refine bnd_eq (ref_in 300 m bs (by decide) hm hn hb) ?_
  have hrl : (rvs bs).length ≤ 480 := by
    rw [rvs_len m bs hb]
    rcases hm with rfl | rfl <;> omega
  refine bnd_eq (ref_pad 300 m (by decide) hm _ hrl) ?_
  refine bnd_eq hf ?_
  have hst : stt m bs = (rvs bs ++ List.replicate (10 * m - (rvs bs).length) 0).take (10 * m) := by
    unfold stt
    rw [List.take_append, List.take_append, List.take_replicate, List.take_replicate]
    congr 2
    omega
  refine bnd_eq (ref_y 300 m (by decide) hm (hP m) _ (stt m bs) hh (by rw [List.length_append, List.length_replicate]; omega) hst) ?_
  refine bnd_eq (x := 16 + (m : Int) / 4) (by rcases hm with rfl | rfl <;> rfl) ?_
  exact bnd_eq (ref_o m hm (tuP m) _ _ rfl (tabOf_len _ _) hw) rfl

theorem loop_w (m : Nat) (hm : m = 4 ∨ m = 8) (bs : List (List Int)) (hn : bs.length ≤ 60) (hb : ∀ b ∈ bs, b.length = m) :
    psalterylaw08_PolySplits.l0 300 (m : Int) bs (hP m) (tuP m) 300 0 (stt m []) = some (.inl ()) := by
  obtain ⟨_, hh, ht, hf, hw⟩ := new_ok m hm
  have hbl : ∀ k, k < bs.length → (bs.getD k []).length = m := fun k hk => by
    rw [List.getD_eq_getElem?_getD, List.getElem?_eq_getElem hk]; exact hb _ (List.getElem_mem hk)
  have hst : ∀ k, k ≤ bs.length → accf (fun k X => nx m (bs.getD k []) X) (stt m []) k = stt m (bs.take k) := by
    intro k
    induction k with
    | zero => intro _; rfl
    | succ k ih =>
      intro hk
      show nx m (bs.getD k []) (accf _ (stt m []) k) = _
      rw [ih (by omega), nx_stt m _ _ (hbl k (by omega)), List.take_add_one, List.getD_eq_getElem?_getD]
      congr 2
      rw [List.getElem?_eq_getElem (by omega)]; rfl
  refine it_loop0 bs.length (fun k X => nx m (bs.getD k []) X) (stt m []) _ (fun next k hk => ?_) (fun next => ?_) (by omega)
  · unfold psalterylaw08_PolySplits.r0
    refine bif_eq_t (decide_eq_true (by omega)) ?_
    refine gd_eq (by omega) ?_
    rw [Int.toNat_natCast, hst k (by omega), hst (k + 1) (by omega)]
    have hnx : nx m (bs.getD k []) (stt m (bs.take k)) = stt m (bs.take (k + 1)) := by rw [← hst k (by omega), ← hst (k + 1) (by omega)]; rfl
    refine bnd_eq (feed_w 300 m (by decide) hm (bs.getD k []) (hP m) (tuP m) (stt m (bs.take k)) (hbl k hk) hh ht (stt_len _ _)) ?_
    dsimp only
    rw [hnx, kw_i64 (x := (k : Int) + 1) (by omega) (by omega)]
    refine gd_eq (by omega) ?_
    have htk : (bs.take ((k : Int) + 1).toNat).drop (0 : Int).toNat = bs.take (k + 1) := by rw [show ((k : Int) + 1).toNat = k + 1 by omega]; rfl
    rw [htk]
    refine bnd_eq (split_w m hm (bs.take (k + 1)) (by rw [List.length_take]; omega) (fun b hb' => hb b (List.mem_of_mem_take hb')) (by rw [List.length_take]; omega)) ?_
    refine bnd_eq (same32_w 300 _ (by unfold spl; rw [tabOf_len]; omega) (by unfold spl; rw [tabOf_len]; omega)) ?_
    exact bif_eq_f rfl rfl
  · unfold psalterylaw08_PolySplits.r0
    exact bif_eq_f (decide_eq_false (by omega)) rfl

theorem polySplits_w (e : Bool) (l : List Int) : psalterylaw08_PolySplits 300 e l = some true := by
  refine bnd_eq aliveP_w ?_
  refine bif_eq_f rfl ?_
  by_cases hl : (l.length : Int) > 200
  · exact bif_eq_t (decide_eq_true hl) rfl
  refine bif_eq_f (decide_eq_false hl) ?_
  have main : ∀ m : Nat, m = 4 ∨ m = 8 → ((poly_NewSplitter 300 (m : Int) (List.replicate 388 none) 0 0).bind fun z => match z with
        | .inl (_r44, _r45, _r46) => some false
        | .inr (_r47, _r48, _r49, r50, r51, r52) =>
          (psalterylaw08_cut_int16 300 l (m : Int)).bind fun r53 =>
          (psalterylaw08_PolySplits.l0 300 (m : Int) r53 r50 r51 300 0 r52 : Option ((Unit) ⊕ (Bool))).bind fun z => match z with
          | .inl _ => some true
          | .inr r => some r) = some true := by
    intro m hm
    obtain ⟨⟨t, a, b, hnew⟩, hh, ht, hf, hw⟩ := new_ok m hm
    refine bnd_eq hnew ?_
    refine bnd_eq (cut_w 300 m hm l (by omega) (by decide)) ?_
    have hz : List.replicate (10 * m) (0 : Int) = stt m [] := by unfold stt rvs; simp
    rw [hz]
    have hcl : (cutL m l).length ≤ 60 := by
      unfold cutL; rw [tabOf_len]
      rcases hm with rfl | rfl <;> omega
    exact bnd_eq (loop_w m hm (cutL m l) hcl (cutL_at m hm l)) rfl
  cases e with
  | true => exact bnd_eq (x := (8 : Int)) rfl (bnd_eq (x := ()) rfl (main 8 (.inr rfl)))
  | false => exact bnd_eq (x := (4 : Int)) rfl (bnd_eq (x := ()) rfl (main 4 (.inl rfl)))
end Go.Fo
