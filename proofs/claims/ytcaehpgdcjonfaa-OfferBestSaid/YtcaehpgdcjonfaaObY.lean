/- The best of what can be done: the search's first is the reference's best. -/
import Derived.Test.YtcaehpgdcjonfaaObX
namespace Go.Fo
def lexP : List Int → List Int → Prop
  | a :: l, b :: m => a > b ∨ (a = b ∧ lexP l m)
  | _, _ => False
def lexB : List Int → List Int → Bool
  | a :: l, b :: m => decide (a > b) || (decide (a = b) && lexB l m)
  | _, _ => false
theorem lexB_iff : ∀ (l m : List Int), lexB l m = true ↔ lexP l m
  | a :: l, b :: m => by simp [lexB, lexP, lexB_iff l m]
  | [], _ => by simp [lexB, lexP]
  | _ :: _, [] => by simp [lexB, lexP]
def rk (f : Fm) : List Int := [f.1, f.2.2.1, f.2.1, f.2.2.2.2.2.2.2.2.1, f.2.2.2.2.2.2.2.2.2, f.2.2.2.1, f.2.2.2.2.1, f.2.2.2.2.2.2.1, f.2.2.2.2.2.1, f.2.2.2.2.2.2.2.1]
def bt (g f : Fm) : Bool := lexB (rk g) (rk f)
theorem lex_irr : ∀ l : List Int, lexB l l = false
  | [] => rfl
  | a :: l => by simp [lexB, lex_irr l]
theorem lex_asym : ∀ l m : List Int, lexB l m = true → lexB m l = false
  | [], _, _ => by simp [lexB]
  | _ :: _, [], _ => by simp [lexB]
  | a :: l, b :: m, h => by
    simp only [lexB, Bool.or_eq_true, decide_eq_true_eq, Bool.and_eq_true] at h
    simp only [lexB, Bool.or_eq_false_iff, decide_eq_false_iff_not, Bool.and_eq_false_iff]
    rcases h with h | ⟨h, h'⟩
    · exact ⟨by omega, .inl (by omega)⟩
    · exact ⟨by omega, .inr (lex_asym l m h')⟩
-- the search's lists
theorem dnN_mem {k : Nat} : ∀ {x : Int} {G : Int → List Fm} {f : Fm}, f ∈ dnN k x G ↔ ∃ y, x - k < y ∧ y ≤ x ∧ f ∈ G y := by
  induction k with
  | zero => intro x G f; simp only [dnN]; constructor
            · intro h; cases h
            · rintro ⟨y, h1, h2, _⟩; omega
  | succ k ih =>
    intro x G f
    simp only [dnN, List.mem_append, ih]
    constructor
    · rintro (h | ⟨y, h1, h2, h3⟩)
      · exact ⟨x, by omega, by omega, h⟩
      · exact ⟨y, by omega, by omega, h3⟩
    · rintro ⟨y, h1, h2, h3⟩
      by_cases hy : y = x
      · subst hy; exact .inl h3
      · exact .inr ⟨y, by omega, by omega, h3⟩
theorem dn_mem {x c : Int} {G : Int → List Fm} {f : Fm} : f ∈ dn x c G ↔ ∃ y, c ≤ y ∧ y ≤ x ∧ f ∈ G y := by
  unfold dn; rw [dnN_mem]
  constructor
  · rintro ⟨y, h1, h2, h3⟩; exact ⟨y, by omega, h2, h3⟩
  · rintro ⟨y, h1, h2, h3⟩; exact ⟨y, by omega, h2, h3⟩
theorem dnN_first {ok : Fm → Bool} {g : Fm} {k : Nat} : ∀ {x : Int} {G : Int → List Fm}, (dnN k x G).find? ok = some g → ∃ y, x - k < y ∧ y ≤ x ∧ (G y).find? ok = some g ∧ ∀ z, y < z → z ≤ x → (G z).find? ok = none := by
  induction k with
  | zero => intro x G h; simp [dnN] at h
  | succ k ih =>
    intro x G h
    simp only [dnN] at h
    rw [List.find?_append] at h
    cases e : (G x).find? ok with
    | some f => rw [e] at h; simp at h; subst h; exact ⟨x, by omega, by omega, e, fun z h1 h2 => by omega⟩
    | none =>
      rw [e] at h
      obtain ⟨y, h1, h2, h3, h4⟩ := ih (by simpa using h)
      refine ⟨y, by omega, by omega, h3, fun z z1 z2 => ?_⟩
      by_cases hz : z = x
      · subst hz; exact e
      · exact h4 z z1 (by omega)
theorem dn_first {ok : Fm → Bool} {g : Fm} {x c : Int} {G : Int → List Fm} (h : (dn x c G).find? ok = some g) : ∃ y, c ≤ y ∧ y ≤ x ∧ (G y).find? ok = some g ∧ ∀ z, y < z → z ≤ x → (G z).find? ok = none := by
  unfold dn at h
  obtain ⟨y, h1, h2, h3, h4⟩ := dnN_first h
  exact ⟨y, by omega, h2, h3, h4⟩
def First (ok : Fm → Bool) (l : List Fm) : Prop := ∀ g, l.find? ok = some g → ∀ f ∈ l, ok f = true → f = g ∨ bt g f = true
theorem first_one (ok : Fm → Bool) (f : Fm) : First ok [f] := by
  intro g hg f' hf' _
  have h1 := List.mem_of_find?_eq_some hg
  simp at h1 hf'
  left; rw [h1, hf']
theorem first_nil (ok : Fm → Bool) : First ok [] := by intro g hg; simp at hg
theorem first_dn {ok : Fm → Bool} {x c : Int} {G : Int → List Fm} (h : ∀ y, First ok (G y)) (hc : ∀ y z, y < z → ∀ f ∈ G y, ∀ g ∈ G z, bt g f = true) : First ok (dn x c G) := by
  intro g hg f hf hok
  obtain ⟨y, h1, h2, h3, h4⟩ := dn_first hg
  obtain ⟨y', k1, k2, k3⟩ := dn_mem.1 hf
  rcases Int.lt_trichotomy y y' with q | q | q
  · have := List.find?_eq_none.1 (h4 y' q k2) f k3
    exact absurd hok this
  · subst q; exact h y g h3 f k3 hok
  · exact .inr (hc y' y q f k3 g (List.mem_of_find?_eq_some h3))
def lenI (i : Int) : Int := Kd.nth (.int .i64) [40, 60, 80, 120] (Int.toNat i)
def lapL (c r ch a b : Int) : List Fm := dn 3 0 fun i => dn a b fun n => [(c, r, ch, 0, 0, 0, 0, 0, lenI i, n)]
def subL (c r ch a b : Int) : List Fm := dn 1 0 fun i => dn 4 1 fun k => dn 1 0 fun j => dn 1 0 fun q => dn a b fun n => [(c, r, ch, kwrap .i64 (4 + kwrap .i64 (4 * i)), kwrap .i64 (4 * k), q, j, n, 0, 0)]
def cands' (p0 p1 p2 p3 p4 p5 p6 p7 p8 p9 p10 p11 p12 p13 p14 : Int) : List Fm := dn 2 1 fun c => dn 2 1 fun ch => dn 3 0 fun r => bif c == 2 then (bif (!((p8 == 0) && ((p9 == 0) && ((p10 == 0) && ((p11 == 0) && ((p12 == 0))))))) then lapL c r ch p12 p11 else []) else (bif (!((p0 == 0) && ((p1 == 0) && ((p2 == 0) && ((p3 == 0) && ((p4 == 0) && ((p5 == 0) && ((p6 == 0) && ((p7 == 0)))))))))) then subL c r ch p7 p6 else [])
theorem cands_eq (p0 p1 p2 p3 p4 p5 p6 p7 p8 p9 p10 p11 p12 p13 p14 : Int) : cands p0 p1 p2 p3 p4 p5 p6 p7 p8 p9 p10 p11 p12 p13 p14 = cands' p0 p1 p2 p3 p4 p5 p6 p7 p8 p9 p10 p11 p12 p13 p14 := rfl
theorem kw4 (i : Int) (h : 0 ≤ i ∧ i ≤ 1) : kwrap .i64 (4 + kwrap .i64 (4 * i)) = 4 + 4 * i := by rw [kw_i64 (x := 4 * i) (by omega) (by omega), kw_i64 (by omega) (by omega)]
theorem kw4' (i : Int) (h : 1 ≤ i ∧ i ≤ 4) : kwrap .i64 (4 * i) = 4 * i := kw_i64 (by omega) (by omega)
theorem len_lt (i j : Int) (h0 : 0 ≤ i) (h : i < j) (h3 : j ≤ 3) : lenI i < lenI j := by
  have : (i = 0 ∧ j = 1) ∨ (i = 0 ∧ j = 2) ∨ (i = 0 ∧ j = 3) ∨ (i = 1 ∧ j = 2) ∨ (i = 1 ∧ j = 3) ∨ (i = 2 ∧ j = 3) := by omega
  rcases this with ⟨rfl, rfl⟩ | ⟨rfl, rfl⟩ | ⟨rfl, rfl⟩ | ⟨rfl, rfl⟩ | ⟨rfl, rfl⟩ | ⟨rfl, rfl⟩ <;> decide
theorem first_dn' {ok : Fm → Bool} {x c : Int} {G : Int → List Fm} (h : ∀ y, First ok (G y)) (hc : ∀ y z, c ≤ y → y < z → z ≤ x → ∀ f ∈ G y, ∀ g ∈ G z, bt g f = true) : First ok (dn x c G) := by
  intro g hg f hf hok
  obtain ⟨y, h1, h2, h3, h4⟩ := dn_first hg
  obtain ⟨y', k1, k2, k3⟩ := dn_mem.1 hf
  rcases Int.lt_trichotomy y y' with q | q | q
  · have := List.find?_eq_none.1 (h4 y' q k2) f k3
    exact absurd hok this
  · subst q; exact h y g h3 f k3 hok
  · exact .inr (hc y' y k1 q h2 f k3 g (List.mem_of_find?_eq_some h3))
theorem first_lap (ok : Fm → Bool) (c r ch a b : Int) : First ok (lapL c r ch a b) := by
  unfold lapL
  refine first_dn' (fun i => first_dn' (fun n => first_one ok _) fun y z _ hyz _ f hf g hg => ?_) fun y z hy hyz hz f hf g hg => ?_
  · simp at hf hg; subst hf hg
    unfold bt; rw [lexB_iff]; simp only [rk, lexP, true_and, Int.lt_irrefl, gt_iff_lt, false_or, and_false, or_false]; omega
  · obtain ⟨n, _, _, hf⟩ := dn_mem.1 hf
    obtain ⟨n', _, _, hg⟩ := dn_mem.1 hg
    simp at hf hg; subst hf hg
    have := len_lt y z hy hyz hz
    unfold bt; rw [lexB_iff]; simp only [rk, lexP, true_and, Int.lt_irrefl, gt_iff_lt, false_or, and_false, or_false]; omega
theorem first_sub (ok : Fm → Bool) (c r ch a b : Int) : First ok (subL c r ch a b) := by
  unfold subL
  refine first_dn' (fun i => first_dn' (fun k => first_dn' (fun j => first_dn' (fun q => first_dn' (fun n => first_one ok _) fun y z _ hyz _ f hf g hg => ?_) fun y z _ hyz _ f hf g hg => ?_) fun y z _ hyz _ f hf g hg => ?_) fun y z hy hyz hz f hf g hg => ?_) fun y z hy hyz hz f hf g hg => ?_
  · simp at hf hg; subst hf hg
    unfold bt; rw [lexB_iff]; simp only [rk, lexP, true_and, Int.lt_irrefl, gt_iff_lt, false_or, and_false, or_false]; omega
  · obtain ⟨n, _, _, hf⟩ := dn_mem.1 hf
    obtain ⟨n', _, _, hg⟩ := dn_mem.1 hg
    simp at hf hg; subst hf hg
    unfold bt; rw [lexB_iff]; simp only [rk, lexP, true_and, Int.lt_irrefl, gt_iff_lt, false_or, and_false, or_false]; omega
  · obtain ⟨q, _, _, hf⟩ := dn_mem.1 hf
    obtain ⟨q', _, _, hg⟩ := dn_mem.1 hg
    obtain ⟨n, _, _, hf⟩ := dn_mem.1 hf
    obtain ⟨n', _, _, hg⟩ := dn_mem.1 hg
    simp at hf hg; subst hf hg
    unfold bt; rw [lexB_iff]; simp only [rk, lexP, true_and, Int.lt_irrefl, gt_iff_lt, false_or, and_false, or_false]; omega
  · obtain ⟨j, _, _, hf⟩ := dn_mem.1 hf
    obtain ⟨j', _, _, hg⟩ := dn_mem.1 hg
    obtain ⟨q, _, _, hf⟩ := dn_mem.1 hf
    obtain ⟨q', _, _, hg⟩ := dn_mem.1 hg
    obtain ⟨n, _, _, hf⟩ := dn_mem.1 hf
    obtain ⟨n', _, _, hg⟩ := dn_mem.1 hg
    simp at hf hg; subst hf hg
    have e1 := kw4' y (by omega)
    have e2 := kw4' z (by omega)
    unfold bt; rw [lexB_iff]; simp only [rk, lexP, true_and, Int.lt_irrefl, gt_iff_lt, false_or, and_false, or_false]; omega
  · obtain ⟨k, _, _, hf⟩ := dn_mem.1 hf
    obtain ⟨k', _, _, hg⟩ := dn_mem.1 hg
    obtain ⟨j, _, _, hf⟩ := dn_mem.1 hf
    obtain ⟨j', _, _, hg⟩ := dn_mem.1 hg
    obtain ⟨q, _, _, hf⟩ := dn_mem.1 hf
    obtain ⟨q', _, _, hg⟩ := dn_mem.1 hg
    obtain ⟨n, _, _, hf⟩ := dn_mem.1 hf
    obtain ⟨n', _, _, hg⟩ := dn_mem.1 hg
    simp at hf hg; subst hf hg
    have e1 := kw4 y (by omega)
    have e2 := kw4 z (by omega)
    unfold bt; rw [lexB_iff]; simp only [rk, lexP, true_and, Int.lt_irrefl, gt_iff_lt, false_or, and_false, or_false]; omega
theorem head_lap {c r ch a b : Int} {f : Fm} (h : f ∈ lapL c r ch a b) : f.1 = c ∧ f.2.1 = r ∧ f.2.2.1 = ch := by
  obtain ⟨i, _, _, h⟩ := dn_mem.1 h
  obtain ⟨n, _, _, h⟩ := dn_mem.1 h
  simp at h; subst h; exact ⟨rfl, rfl, rfl⟩
theorem head_sub {c r ch a b : Int} {f : Fm} (h : f ∈ subL c r ch a b) : f.1 = c ∧ f.2.1 = r ∧ f.2.2.1 = ch := by
  obtain ⟨i, _, _, h⟩ := dn_mem.1 h
  obtain ⟨k, _, _, h⟩ := dn_mem.1 h
  obtain ⟨j, _, _, h⟩ := dn_mem.1 h
  obtain ⟨q, _, _, h⟩ := dn_mem.1 h
  obtain ⟨n, _, _, h⟩ := dn_mem.1 h
  simp at h; subst h; exact ⟨rfl, rfl, rfl⟩
def leaf (p0 p1 p2 p3 p4 p5 p6 p7 p8 p9 p10 p11 p12 p13 p14 c ch r : Int) : List Fm := bif c == 2 then (bif (!((p8 == 0) && ((p9 == 0) && ((p10 == 0) && ((p11 == 0) && ((p12 == 0))))))) then lapL c r ch p12 p11 else []) else (bif (!((p0 == 0) && ((p1 == 0) && ((p2 == 0) && ((p3 == 0) && ((p4 == 0) && ((p5 == 0) && ((p6 == 0) && ((p7 == 0)))))))))) then subL c r ch p7 p6 else [])
theorem head_leaf {p0 p1 p2 p3 p4 p5 p6 p7 p8 p9 p10 p11 p12 p13 p14 c ch r : Int} {f : Fm} (h : f ∈ leaf p0 p1 p2 p3 p4 p5 p6 p7 p8 p9 p10 p11 p12 p13 p14 c ch r) : f.1 = c ∧ f.2.1 = r ∧ f.2.2.1 = ch := by
  unfold leaf at h
  revert h
  cases (c == 2) <;> cases (!((p8 == 0) && ((p9 == 0) && ((p10 == 0) && ((p11 == 0) && ((p12 == 0))))))) <;> cases (!((p0 == 0) && ((p1 == 0) && ((p2 == 0) && ((p3 == 0) && ((p4 == 0) && ((p5 == 0) && ((p6 == 0) && ((p7 == 0)))))))))) <;> intro h <;> first | exact head_lap h | exact head_sub h | exact absurd h List.not_mem_nil
theorem first_leaf (ok : Fm → Bool) (p0 p1 p2 p3 p4 p5 p6 p7 p8 p9 p10 p11 p12 p13 p14 c ch r : Int) : First ok (leaf p0 p1 p2 p3 p4 p5 p6 p7 p8 p9 p10 p11 p12 p13 p14 c ch r) := by
  unfold leaf
  cases (c == 2) <;> cases (!((p8 == 0) && ((p9 == 0) && ((p10 == 0) && ((p11 == 0) && ((p12 == 0))))))) <;> cases (!((p0 == 0) && ((p1 == 0) && ((p2 == 0) && ((p3 == 0) && ((p4 == 0) && ((p5 == 0) && ((p6 == 0) && ((p7 == 0)))))))))) <;> first | exact first_nil ok | exact first_lap ok _ _ _ _ _ | exact first_sub ok _ _ _ _ _
theorem first_all (ok : Fm → Bool) (p0 p1 p2 p3 p4 p5 p6 p7 p8 p9 p10 p11 p12 p13 p14 : Int) : First ok (cands' p0 p1 p2 p3 p4 p5 p6 p7 p8 p9 p10 p11 p12 p13 p14) := by
  show First ok (dn 2 1 fun c => dn 2 1 fun ch => dn 3 0 fun r => leaf p0 p1 p2 p3 p4 p5 p6 p7 p8 p9 p10 p11 p12 p13 p14 c ch r)
  refine first_dn' (fun c => first_dn' (fun ch => first_dn' (fun r => first_leaf ok p0 p1 p2 p3 p4 p5 p6 p7 p8 p9 p10 p11 p12 p13 p14 c ch r) fun y z _ hyz _ f hf g hg => ?_) fun y z _ hyz _ f hf g hg => ?_) fun y z _ hyz _ f hf g hg => ?_
  · obtain ⟨x1, x2, x3⟩ := head_leaf hf
    obtain ⟨y1, y2, y3⟩ := head_leaf hg
    unfold bt; rw [lexB_iff]; simp only [rk, lexP, true_and, Int.lt_irrefl, gt_iff_lt, false_or, and_false, or_false]; omega
  · obtain ⟨r, _, _, hf⟩ := dn_mem.1 hf
    obtain ⟨r', _, _, hg⟩ := dn_mem.1 hg
    obtain ⟨x1, x2, x3⟩ := head_leaf hf
    obtain ⟨y1, y2, y3⟩ := head_leaf hg
    unfold bt; rw [lexB_iff]; simp only [rk, lexP, true_and, Int.lt_irrefl, gt_iff_lt, false_or, and_false, or_false]; omega
  · obtain ⟨ch, _, _, hf⟩ := dn_mem.1 hf
    obtain ⟨ch', _, _, hg⟩ := dn_mem.1 hg
    obtain ⟨r, _, _, hf⟩ := dn_mem.1 hf
    obtain ⟨r', _, _, hg⟩ := dn_mem.1 hg
    obtain ⟨x1, x2, x3⟩ := head_leaf hf
    obtain ⟨y1, y2, y3⟩ := head_leaf hg
    unfold bt; rw [lexB_iff]; simp only [rk, lexP, true_and, Int.lt_irrefl, gt_iff_lt, false_or, and_false, or_false]; omega
def sF (r ch bd bl q j n : Int) : Fm := (1, r, ch, bd, bl, q, j, n, 0, 0)
theorem sub_ok (p0 p1 p2 p3 p4 p5 p6 p7 p8 p9 p10 p11 p12 p13 p14 r ch bd bl q j n : Int) (h : okf p0 p1 p2 p3 p4 p5 p6 p7 p8 p9 p10 p11 p12 p13 p14 p13 p14 (sF r ch bd bl q j n) = true) : (subP 1 r ch bd bl q j n 0 0 ∧ bitsZ ch bd bl j n ≤ 4096) ∧ p6 ≤ n ∧ n ≤ p7 ∧ (!((p0 == 0) && ((p1 == 0) && ((p2 == 0) && ((p3 == 0) && ((p4 == 0) && ((p5 == 0) && ((p6 == 0) && ((p7 == 0)))))))))) = true ∧ (∀ z, p6 ≤ z → z ≤ p7 → (subP 1 r ch bd bl q j z 0 0 ∧ bitsZ ch bd bl j z ≤ 4096) → okf p0 p1 p2 p3 p4 p5 p6 p7 p8 p9 p10 p11 p12 p13 p14 p13 p14 (sF r ch bd bl q j z) = true) := by
  have h : all p0 p1 p2 p3 p4 p5 p6 p7 p8 p9 p10 p11 p12 p13 p14 1 r ch bd bl q j n 0 0 p13 p14 = true := h
  unfold all at h
  simp only [Bool.and_eq_true] at h
  obtain ⟨h1, h2, h3, h4, h5⟩ := h
  have h5 : subA p0 p1 p2 p3 p4 p5 p6 p7 p8 p9 p10 p11 p12 p13 p14 1 r ch bd bl q j n 0 0 p13 p14 = true := h5
  have h5' := h5
  unfold subA at h5
  simp only [Bool.and_eq_true, span_t] at h5
  obtain ⟨i0, i1, i2, i3, i4, i5, i6⟩ := h5
  have ho : okP 1 r ch bd bl q j n 0 0 := of_decide_eq_true h2
  have hz : (!((p0 == 0) && ((p1 == 0) && ((p2 == 0) && ((p3 == 0) && ((p4 == 0) && ((p5 == 0) && ((p6 == 0) && ((p7 == 0)))))))))) = true := by
    rcases Bool.eq_false_or_eq_true ((p0 == 0) && ((p1 == 0) && ((p2 == 0) && ((p3 == 0) && ((p4 == 0) && ((p5 == 0) && ((p6 == 0) && ((p7 == 0))))))))) with e | e
    · have e' := e
      simp only [Bool.and_eq_true, beq_iff_eq] at e'
      rw [e'.1, in_mono 0] at i0; cases i0
    · rw [e]; rfl
  refine ⟨?_, i6.2.1, i6.2.2, hz, fun z z1 z2 z3 => ?_⟩
  · rcases ho with ho | ho
    · exact ho
    · cases ho.1
  · show all p0 p1 p2 p3 p4 p5 p6 p7 p8 p9 p10 p11 p12 p13 p14 1 r ch bd bl q j z 0 0 p13 p14 = true
    unfold all
    rw [h1, h3, h4, show okF 1 r ch bd bl q j z 0 0 = true from decide_eq_true (.inl z3)]
    show subA p0 p1 p2 p3 p4 p5 p6 p7 p8 p9 p10 p11 p12 p13 p14 1 r ch bd bl q j z 0 0 p13 p14 = true
    unfold subA
    rw [i0, i1, i2, i3, i4, i5, span_t.2 ⟨Int.le_refl _, z1, z2⟩]; rfl
theorem mem_sub (p0 p1 p2 p3 p4 p5 p6 p7 p8 p9 p10 p11 p12 p13 p14 r ch i k q j n : Int) (hr : 0 ≤ r ∧ r ≤ 3) (hc : 1 ≤ ch ∧ ch ≤ 2) (hi : 0 ≤ i ∧ i ≤ 1) (hk : 1 ≤ k ∧ k ≤ 4) (hq : 0 ≤ q ∧ q ≤ 1) (hj : 0 ≤ j ∧ j ≤ 1) (h : okf p0 p1 p2 p3 p4 p5 p6 p7 p8 p9 p10 p11 p12 p13 p14 p13 p14 (sF r ch (4 + 4 * i) (4 * k) q j n) = true) : sF r ch (4 + 4 * i) (4 * k) q j n ∈ cands p0 p1 p2 p3 p4 p5 p6 p7 p8 p9 p10 p11 p12 p13 p14 := by
  obtain ⟨_, n1, n2, hz, _⟩ := sub_ok _ _ _ _ _ _ _ _ _ _ _ _ _ _ _ _ _ _ _ _ _ _ h
  rw [cands_eq]
  refine dn_mem.2 ⟨1, by decide, by decide, dn_mem.2 ⟨ch, hc.1, hc.2, dn_mem.2 ⟨r, hr.1, hr.2, ?_⟩⟩⟩
  rw [hz]
  refine dn_mem.2 ⟨i, hi.1, hi.2, dn_mem.2 ⟨k, hk.1, hk.2, dn_mem.2 ⟨j, hj.1, hj.2, dn_mem.2 ⟨q, hq.1, hq.2, dn_mem.2 ⟨n, n1, n2, ?_⟩⟩⟩⟩⟩
  rw [kw4 i hi, kw4' k hk]
  exact List.mem_singleton.2 rfl
theorem ne_self (x : Int) : (x != x) = false := by simp

theorem cmp_w (x y : Int) : cmp_Compare_int 300 x y = some (bif decide (x < y) then -1 else bif decide (x > y) then 1 else 0) := by
  refine bnd_eq (x := false) (congrArg some (ne_self x)) (bnd_eq (x := false) (congrArg some (ne_self y)) ?_)
  refine bif_eq_f rfl (bif_eq_f rfl ?_)
  cases decide (x < y) <;> cases decide (x > y) <;> rfl
def res (z : Unit ⊕ Int) : Bool := match z with | .inl _ => false | .inr r => decide (r > 0)
theorem comp_l (a b : List Int) (n : Int) (ha : (a.length : Int) = n) (hb : (b.length : Int) = n) (hn : n ≤ 20) (k : Nat) : ∀ (m : Nat) (i : Int), k < m → 0 ≤ i → i + k = n → ∃ z, slices_Compare_int_int.l0 300 a b n m i = some z ∧ res z = lexB (a.drop i.toNat) (b.drop i.toNat) := by
  induction k with
  | zero =>
    intro m i h h0 h1
    obtain ⟨m, rfl⟩ : ∃ q, m = q + 1 := ⟨m - 1, by omega⟩
    refine ⟨.inl (), ?_, ?_⟩
    · show slices_Compare_int_int.r0 300 a b n (slices_Compare_int_int.l0 300 a b n m) i = _
      exact bif_eq_f (decide_eq_false (by omega)) rfl
    · rw [List.drop_of_length_le (by omega), List.drop_of_length_le (by omega)]; rfl
  | succ k ih =>
    intro m i h h0 h1
    obtain ⟨m, rfl⟩ : ∃ q, m = q + 1 := ⟨m - 1, by omega⟩
    have la : i.toNat < a.length := by omega
    have lb : i.toNat < b.length := by omega
    have ea : Kd.nth (.int .i64) a (Int.toNat i) = a[i.toNat] := by unfold Kd.nth; rw [List.getD_eq_getElem?_getD, List.getElem?_eq_getElem la]; rfl
    have eb : Kd.nth (.int .i64) b (Int.toNat i) = b[i.toNat] := by unfold Kd.nth; rw [List.getD_eq_getElem?_getD, List.getElem?_eq_getElem lb]; rfl
    rw [List.drop_eq_getElem_cons la, List.drop_eq_getElem_cons lb]
    generalize a[i.toNat] = x at ea
    generalize b[i.toNat] = y at eb
    have st : ∀ (r : Option (Unit ⊕ Int)), (bif ((bif decide (x < y) then -1 else bif decide (x > y) then 1 else 0) != (0 : Int)) then some (.inr (bif decide (x < y) then -1 else bif decide (x > y) then 1 else 0)) else slices_Compare_int_int.l0 300 a b n m (i + 1)) = r → slices_Compare_int_int.l0 300 a b n (m + 1) i = r := by
      intro r hr
      show slices_Compare_int_int.r0 300 a b n (slices_Compare_int_int.l0 300 a b n m) i = r
      refine bif_eq_t (decide_eq_true (by omega)) (gd_eq ⟨h0, by omega⟩ (bif_eq_f (decide_eq_false (by omega)) (gd_eq ⟨h0, by omega⟩ (bnd_eq (cmp_w _ _) ?_))))
      rw [kw_i64 (by omega) (by omega), ea, eb]
      exact hr
    rcases Int.lt_trichotomy x y with c | c | c
    · refine ⟨.inr (-1), st _ (by rw [decide_eq_true c]; rfl), ?_⟩
      simp only [lexB]
      rw [decide_eq_false (by omega : ¬ x > y), decide_eq_false (by omega : ¬ x = y)]; rfl
    · subst c
      obtain ⟨z, hz, hr⟩ := ih m (i + 1) (by omega) (by omega) (by omega)
      refine ⟨z, st _ (by rw [decide_eq_false (by omega : ¬ x < x)]; exact hz), ?_⟩
      rw [hr, show (i + 1).toNat = i.toNat + 1 by omega]
      simp only [lexB]
      simp
    · refine ⟨.inr 1, st _ (by rw [decide_eq_false (by omega : ¬ x < y), decide_eq_true (by omega : x > y)]; rfl), ?_⟩
      simp only [lexB]
      rw [decide_eq_true (by omega : x > y)]; rfl
theorem better_w (f0 f1 f2 f3 f4 f5 f6 f7 f8 f9 g0 g1 g2 g3 g4 g5 g6 g7 g8 g9 : Int) : offer_Better 300 f0 f1 f2 f3 f4 f5 f6 f7 f8 f9 g0 g1 g2 g3 g4 g5 g6 g7 g8 g9 = some (bt (f0, f1, f2, f3, f4, f5, f6, f7, f8, f9) (g0, g1, g2, g3, g4, g5, g6, g7, g8, g9)) := by
  obtain ⟨z, hz, hr⟩ := comp_l (rk (f0, f1, f2, f3, f4, f5, f6, f7, f8, f9)) (rk (g0, g1, g2, g3, g4, g5, g6, g7, g8, g9)) 10 rfl rfl (by decide) 10 300 0 (by decide) (by decide) (by decide)
  have hr : res z = bt (f0, f1, f2, f3, f4, f5, f6, f7, f8, f9) (g0, g1, g2, g3, g4, g5, g6, g7, g8, g9) := hr
  rcases z with _ | r
  · refine bnd_eq rfl (bnd_eq rfl (bnd_eq (x := 0) (bnd_eq hz rfl) ?_))
    rw [← hr]; rfl
  · refine bnd_eq rfl (bnd_eq rfl (bnd_eq (x := r) (bnd_eq hz rfl) ?_))
    rw [← hr]; rfl
theorem mem_lap (p0 p1 p2 p3 p4 p5 p6 p7 p8 p9 p10 p11 p12 p13 p14 r ch j n : Int) (hr : 0 ≤ r ∧ r ≤ 3) (hc : 1 ≤ ch ∧ ch ≤ 2) (hj : 0 ≤ j ∧ j ≤ 3) (h : okf p0 p1 p2 p3 p4 p5 p6 p7 p8 p9 p10 p11 p12 p13 p14 p13 p14 (2, r, ch, 0, 0, 0, 0, 0, lenI j, n) = true) : ((2, r, ch, 0, 0, 0, 0, 0, lenI j, n) : Fm) ∈ cands p0 p1 p2 p3 p4 p5 p6 p7 p8 p9 p10 p11 p12 p13 p14 := by
  rw [cands_eq]
  have h : all p0 p1 p2 p3 p4 p5 p6 p7 p8 p9 p10 p11 p12 p13 p14 2 r ch 0 0 0 0 0 (lenI j) n p13 p14 = true := h
  unfold all at h
  simp only [Bool.and_eq_true] at h
  obtain ⟨h1, _, _, _, h5⟩ := h
  have h5 : lapA p0 p1 p2 p3 p4 p5 p6 p7 p8 p9 p10 p11 p12 p13 p14 2 r ch 0 0 0 0 0 (lenI j) n p13 p14 = true := h5
  unfold lapA at h5
  simp only [Bool.and_eq_true, span_t] at h5
  obtain ⟨i0, _, _, i3⟩ := h5
  have hz : (!((p8 == 0) && ((p9 == 0) && ((p10 == 0) && ((p11 == 0) && ((p12 == 0))))))) = true := by
    rcases Bool.eq_false_or_eq_true ((p8 == 0) && ((p9 == 0) && ((p10 == 0) && ((p11 == 0) && ((p12 == 0)))))) with e | e
    · have e' := e
      simp only [Bool.and_eq_true, beq_iff_eq] at e'
      rw [e'.1, in_mono 0] at i0; cases i0
    · rw [e]; rfl
  refine dn_mem.2 ⟨2, by decide, by decide, dn_mem.2 ⟨ch, hc.1, hc.2, dn_mem.2 ⟨r, hr.1, hr.2, ?_⟩⟩⟩
  rw [hz]
  exact dn_mem.2 ⟨j, hj.1, hj.2, dn_mem.2 ⟨n, i3.2.1, i3.2.2, List.mem_singleton.2 rfl⟩⟩
theorem mem_all (p0 p1 p2 p3 p4 p5 p6 p7 p8 p9 p10 p11 p12 p13 p14 : Int) (f : Fm) (h : okf p0 p1 p2 p3 p4 p5 p6 p7 p8 p9 p10 p11 p12 p13 p14 p13 p14 f = true) : f ∈ cands p0 p1 p2 p3 p4 p5 p6 p7 p8 p9 p10 p11 p12 p13 p14 := by
  obtain ⟨f0, f1, f2, f3, f4, f5, f6, f7, f8, f9⟩ := f
  have h' : all p0 p1 p2 p3 p4 p5 p6 p7 p8 p9 p10 p11 p12 p13 p14 f0 f1 f2 f3 f4 f5 f6 f7 f8 f9 p13 p14 = true := h
  unfold all at h'
  simp only [Bool.and_eq_true] at h'
  have ho : okP f0 f1 f2 f3 f4 f5 f6 f7 f8 f9 := of_decide_eq_true h'.2.1
  clear h'
  rcases ho with ⟨⟨rfl, s1, s2, s3, s4, s5, s6, s7, s8, s9, s10, rfl, rfl⟩, _⟩ | ⟨rfl, s1, s2, s3, s4, s5, s6, rfl, rfl, rfl, rfl, rfl⟩
  · obtain ⟨i, hi, rfl⟩ : ∃ i : Int, (0 ≤ i ∧ i ≤ 1) ∧ f3 = 4 + 4 * i := by
      rcases s4 with rfl | rfl
      · exact ⟨0, by decide, by decide⟩
      · exact ⟨1, by decide, by decide⟩
    obtain ⟨k, hk, rfl⟩ : ∃ k : Int, (1 ≤ k ∧ k ≤ 4) ∧ f4 = 4 * k := by
      rcases s5 with rfl | rfl | rfl | rfl
      · exact ⟨1, by decide, by decide⟩
      · exact ⟨2, by decide, by decide⟩
      · exact ⟨3, by decide, by decide⟩
      · exact ⟨4, by decide, by decide⟩
    exact mem_sub p0 p1 p2 p3 p4 p5 p6 p7 p8 p9 p10 p11 p12 p13 p14 f1 f2 i k f5 f6 f7 (by omega) (by omega) hi hk (by omega) (by omega) h
  · obtain ⟨j, hj, rfl⟩ : ∃ j : Int, (0 ≤ j ∧ j ≤ 3) ∧ f8 = lenI j := by
      rcases s4 with rfl | rfl | rfl | rfl
      · exact ⟨0, by decide, by decide⟩
      · exact ⟨1, by decide, by decide⟩
      · exact ⟨2, by decide, by decide⟩
      · exact ⟨3, by decide, by decide⟩
    exact mem_lap p0 p1 p2 p3 p4 p5 p6 p7 p8 p9 p10 p11 p12 p13 p14 f1 f2 j f9 (by omega) (by omega) hj h
end Go.Fo
