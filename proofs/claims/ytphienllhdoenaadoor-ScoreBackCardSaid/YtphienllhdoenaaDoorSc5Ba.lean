/- Steps of any line: what they hold. -/
import Derived.Test.YtphienllhdoenaaDoorSc5Gd
namespace Go.Fo
set_option maxRecDepth 6000
theorem ends_w (K : Nat) (rest : List ByteArray) (hw : ∀ w ∈ rest, w.size ≤ 100000 ∧ w.size + 3 ≤ K) :
    ∃ A B ws bad z1 z2, score_reader_bytes_2 K rest false = some z1 ∧ score_reader_bytes_2 K (unb z1).2.1 (unb z1).2.2 = some z2 ∧ A = (unb z1).1 ∧ B = (unb z2).1 ∧ ws = (unb z2).2.1 ∧ bad = (unb z2).2.2 ∧
      (∀ x y a b, rest = [x, y] → hx x = some a → hx y = some b → A = a ∧ B = b ∧ ws = [] ∧ bad = false) ∧ (¬ (∃ x y a b, rest = [x, y] ∧ hx x = some a ∧ hx y = some b) → bad = true ∨ ws ≠ []) := by
  match rest, hw with
  | [], _ => exact ⟨[], [], [], true, _, _, bytes_nil K false, bytes_nil K true, rfl, rfl, rfl, rfl, (fun x y a b h => by cases h), fun _ => .inl rfl⟩
  | [x], hw =>
    obtain ⟨z1, g1, g2, g3, g4⟩ := bytes_w K x [] false (hw x (by simp)).1 (by have := (hw x (by simp)).2; omega)
    refine ⟨(unb z1).1, [], [], true, z1, .inl ([], true), g1, by rw [g2]; exact bytes_nil K _, rfl, rfl, rfl, rfl, (fun x y a b h => by cases h), fun _ => .inl rfl⟩
  | x :: y :: t, hw =>
    have hx1 := hw x (by simp)
    have hy1 := hw y (by simp)
    obtain ⟨z1, g1, g2, g3, g4⟩ := bytes_w K x (y :: t) false hx1.1 (by omega)
    obtain ⟨z2, k1, k2, k3, k4⟩ := bytes_w K y t (unb z1).2.2 hy1.1 (by omega)
    refine ⟨_, _, _, _, z1, z2, g1, by rw [g2]; exact k1, rfl, rfl, rfl, rfl, fun x' y' a b h ha hb => ?_, fun hn => ?_⟩
    · simp only [List.cons.injEq] at h
      obtain ⟨rfl, rfl, rfl⟩ := h
      obtain ⟨e1, e2⟩ := g3 a ha
      obtain ⟨e3, e4⟩ := k3 b hb
      exact ⟨e1, e3, k2, e4.trans e2⟩
    · cases t with
      | cons u t => right; rw [k2]; simp
      | nil =>
        left
        cases hb : hx y with
        | none => exact k4 hb
        | some b =>
          cases ha : hx x with
          | none => rw [(k3 b hb).2]; exact g4 ha
          | some a => exact absurd ⟨x, y, a, b, rfl, ha, hb⟩ hn
def valid (s : Step) : Prop := okIn s ∧ (toldT s).isSome = true
theorem i16_b (x : Int) : -32768 ≤ kwrap .i16 x ∧ kwrap .i16 x ≤ 32767 := by
  simp only [kwrap, IntKind.wrap, IntKind.signed, IntKind.bits]
  simp
  split <;> omega
theorem tone_p (K : Nat) (hK : 4200 ≤ K) (ws : List ByteArray) (hw : ∀ w ∈ ws, w.size ≤ 100000 ∧ w.size + 1 ≤ K) :
    ∃ z, score_reader_tone_2 K ws false = some z ∧ ∀ xs w b, z = .inr (xs, w, b) → xs.length ≤ 4096 ∧ ∀ x ∈ xs, -32768 ≤ x ∧ x ≤ 32767 := by
  have s1 := rd_sub 32767 ws false
  have b1 := rd_b (m := 32767) (by decide) ws false
  have n1 := number_w K 32767 ws false hw (by omega)
  generalize h1 : rd 32767 ws false = q1 at s1 b1 n1
  obtain ⟨a, ws1, bad1⟩ := q1
  have hw1 : ∀ w ∈ ws1, w.size ≤ 100000 ∧ w.size + 1 ≤ K := fun w h => hw w (s1 w h)
  have s2 := rd_sub 65535 ws1 bad1
  have b2 := rd_b (m := 65535) (by decide) ws1 bad1
  have n2 := number_w K 65535 ws1 bad1 hw1 (by omega)
  generalize h2 : rd 65535 ws1 bad1 = q2 at s2 b2 n2
  obtain ⟨n, ws2, bad2⟩ := q2
  have hw2 : ∀ w ∈ ws2, w.size ≤ 100000 ∧ w.size + 1 ≤ K := fun w h => hw1 w (s2 w h)
  have s3 := rd_sub 65535 ws2 bad2
  have b3 := rd_b (m := 65535) (by decide) ws2 bad2
  have n3 := number_w K 65535 ws2 bad2 hw2 (by omega)
  generalize h3 : rd 65535 ws2 bad2 = q3 at s3 b3 n3
  obtain ⟨d, ws3, bad3⟩ := q3
  have hw3 : ∀ w ∈ ws3, w.size ≤ 100000 ∧ w.size + 1 ≤ K := fun w h => hw2 w (s3 w h)
  have b4 := rd_b (m := 4096) (by decide) ws3 bad3
  have n4 := number_w K 4096 ws3 bad3 hw3 (by omega)
  generalize h4 : rd 4096 ws3 bad3 = q4 at b4 n4
  obtain ⟨c, ws4, bad4⟩ := q4
  dsimp only at b1 b2 b3 b4
  cases hb : (bif bad4 then true else (d == 0)) with
  | true => exact ⟨.inl ws4, bnd_eq n1 (bnd_eq n2 (bnd_eq n3 (bnd_eq n4 (bif_eq_t hb rfl)))), fun xs w b h => by cases h⟩
  | false =>
    obtain ⟨c, rfl⟩ : ∃ q : Nat, c = q := ⟨c.toNat, by omega⟩
    have hd0 : d ≠ 0 := by
      cases bad4 with
      | true => cases hb
      | false => exact beq_eq_false_iff_ne.1 hb
    have hloop := tone_loop K hK c b1 b2 (d := d) (by omega) (by omega) ws4 bad4
    refine ⟨.inr (tabOf (tonef a n d) c, ws4, bad4), bnd_eq n1 (bnd_eq n2 (bnd_eq n3 (bnd_eq n4 (bif_eq_f hb (gd_eq ⟨by omega, by omega, by omega⟩ ?_))))), fun xs w b h => ?_⟩
    · dsimp only
      rw [Int.toNat_natCast, List.length_replicate]
      exact bnd_eq hloop rfl
    · cases h
      refine ⟨by rw [tabOf_len]; omega, fun x hx => ?_⟩
      unfold tabOf at hx
      obtain ⟨k, _, rfl⟩ := List.mem_map.1 hx
      exact i16_b _
theorem bitf_b (t : Bool) : bitf t = 0 ∨ bitf t = 1 := by cases t <;> simp [bitf]
theorem rowf_b (a b c d : Int) : ∀ (k : Nat) (x : Int) (f : Bool), ∀ s ∈ (rowf a b c d k x f).1, (s.1 = 0 ∨ s.1 = 1) ∧ (s.2.1 = 0 ∨ s.2.1 = 1) ∧ s.2.2.1 = 0 ∧ s.2.2.2 = 0
  | 0, _, _, s, h => by cases h
  | k + 1, x, f, s, h => by
    simp only [rowf] at h
    rcases List.mem_cons.1 h with rfl | h
    · exact ⟨bitf_b _, bitf_b _, rfl, rfl⟩
    · exact rowf_b a b c d k _ _ s h
theorem toks_some : ∀ (l : List Slot), (∀ s ∈ l, n31 s.1 ∧ n31 s.2.1 ∧ n31 s.2.2.1) → (toks l).isSome = true
  | [], _ => rfl
  | s :: l, h => by
    have ih := toks_some l (fun x hx => h x (List.mem_cons_of_mem _ hx))
    have ht : (tokT s).isSome = true := by
      unfold tokT
      split
      · rfl
      · split
        · rfl
        · split
          · rfl
          · rw [if_pos (h s (List.mem_cons_self ..))]; rfl
    rw [toks_cons]
    cases h1 : tokT s with
    | none => rw [h1] at ht; cases ht
    | some t =>
      cases h2 : toks l with
      | none => rw [h2] at ih; cases ih
      | some u => rfl
theorem valid4 {l : List Slot} (h : ∀ s ∈ l, (n31 s.1 ∧ n31 s.2.1 ∧ n31 s.2.2.1) ∧ 0 ≤ s.2.2.2 ∧ s.2.2.2 < 4294967296) (hl : l.length ≤ 70000) : valid (4, (0, ([], ([], ([], l))))) := by
  have ht := toks_some l (fun s hs => (h s hs).1)
  refine ⟨⟨fun x hx => (by cases hx), Nat.zero_le _, fun x hx => (by cases hx), Nat.zero_le _, fun x hx => (by cases hx), Nat.zero_le _, fun s hs => (h s hs).2, hl⟩, ?_⟩
  have : toldT (4, (0, ([], ([], ([], l))))) = (toks l).map (tInterval ++ ·) := rfl
  rw [this]
  cases h2 : toks l with
  | none => rw [h2] at ht; cases ht
  | some u => rfl
theorem storm_val (a b c d : Int) (s : Nat) (hs : s ≤ 64) : ∀ (k : Nat) (x : Int) (f : Bool), ∀ y ∈ stormf a b c d s k x f, valid y
  | 0, _, _, y, h => by cases h
  | k + 1, x, f, y, h => by
    rcases List.mem_cons.1 h with rfl | h
    · refine valid4 (fun q hq => ?_) (by rw [rowf_len]; omega)
      have := rowf_b a b c d s x f q hq
      unfold n31
      omega
    · exact storm_val a b c d s hs k _ _ y h
theorem storm_p (K : Nat) (hK : 4200 ≤ K) (ws : List ByteArray) (hw : ∀ w ∈ ws, w.size ≤ 100000 ∧ w.size + 1 ≤ K) :
    ∃ z, score_reader_storm_2 K ws false = some z ∧ ∀ xs w b, z = .inr (xs, w, b) → xs.length ≤ 64 ∧ ∀ y ∈ xs, valid y := by
  have s1 := rd_sub 4294967295 ws false
  have b1 := rd_b (m := 4294967295) (by decide) ws false
  have n1 := number_w K 4294967295 ws false hw (by omega)
  generalize h1 : rd 4294967295 ws false = q1 at s1 b1 n1
  obtain ⟨x, ws1, bad1⟩ := q1
  have hw1 : ∀ w ∈ ws1, w.size ≤ 100000 ∧ w.size + 1 ≤ K := fun w h => hw w (s1 w h)
  have s2 := rd_sub 65536 ws1 bad1
  have b2 := rd_b (m := 65536) (by decide) ws1 bad1
  have n2 := number_w K 65536 ws1 bad1 hw1 (by omega)
  generalize h2 : rd 65536 ws1 bad1 = q2 at s2 b2 n2
  obtain ⟨a, ws2, bad2⟩ := q2
  have hw2 : ∀ w ∈ ws2, w.size ≤ 100000 ∧ w.size + 1 ≤ K := fun w h => hw1 w (s2 w h)
  have s3 := rd_sub 65536 ws2 bad2
  have b3 := rd_b (m := 65536) (by decide) ws2 bad2
  have n3 := number_w K 65536 ws2 bad2 hw2 (by omega)
  generalize h3 : rd 65536 ws2 bad2 = q3 at s3 b3 n3
  obtain ⟨b, ws3, bad3⟩ := q3
  have hw3 : ∀ w ∈ ws3, w.size ≤ 100000 ∧ w.size + 1 ≤ K := fun w h => hw2 w (s3 w h)
  have s4 := rd_sub 65536 ws3 bad3
  have b4 := rd_b (m := 65536) (by decide) ws3 bad3
  have n4 := number_w K 65536 ws3 bad3 hw3 (by omega)
  generalize h4 : rd 65536 ws3 bad3 = q4 at s4 b4 n4
  obtain ⟨c, ws4, bad4⟩ := q4
  have hw4 : ∀ w ∈ ws4, w.size ≤ 100000 ∧ w.size + 1 ≤ K := fun w h => hw3 w (s4 w h)
  have s5 := rd_sub 65536 ws4 bad4
  have b5 := rd_b (m := 65536) (by decide) ws4 bad4
  have n5 := number_w K 65536 ws4 bad4 hw4 (by omega)
  generalize h5 : rd 65536 ws4 bad4 = q5 at s5 b5 n5
  obtain ⟨d, ws5, bad5⟩ := q5
  have hw5 : ∀ w ∈ ws5, w.size ≤ 100000 ∧ w.size + 1 ≤ K := fun w h => hw4 w (s5 w h)
  have s6 := rd_sub 64 ws5 bad5
  have b6 := rd_b (m := 64) (by decide) ws5 bad5
  have n6 := number_w K 64 ws5 bad5 hw5 (by omega)
  generalize h6 : rd 64 ws5 bad5 = q6 at s6 b6 n6
  obtain ⟨n, ws6, bad6⟩ := q6
  have hw6 : ∀ w ∈ ws6, w.size ≤ 100000 ∧ w.size + 1 ≤ K := fun w h => hw5 w (s6 w h)
  have b7 := rd_b (m := 16) (by decide) ws6 bad6
  have n7 := number_w K 16 ws6 bad6 hw6 (by omega)
  generalize h7 : rd 16 ws6 bad6 = q7 at b7 n7
  obtain ⟨s, ws7, bad7⟩ := q7
  dsimp only at b1 b2 b3 b4 b5 b6 b7
  obtain ⟨n, rfl⟩ : ∃ q : Nat, n = q := ⟨n.toNat, by omega⟩
  obtain ⟨s, rfl⟩ : ∃ q : Nat, s = q := ⟨s.toNat, by omega⟩
  have hnew : weather_New K a b c d (kwrap .u32 x) = some (.inr ()) := bnd_eq (check_ok K (by omega) b2 b3 b4 b5) rfl
  cases bad7 with
  | true => exact ⟨.inl ws7, bnd_eq n1 (bnd_eq n2 (bnd_eq n3 (bnd_eq n4 (bnd_eq n5 (bnd_eq n6 (bnd_eq n7 (bnd_eq hnew rfl))))))), fun xs w b h => by cases h⟩
  | false =>
    have hloop := storm_w K (by omega) s (by omega) (n : Int) a b c d (by omega) ws7 false n K 0 (kwrap .u32 x) true [] (by omega) (by omega) (by omega) rfl
    rw [List.nil_append] at hloop
    refine ⟨.inr (stormf a b c d s n (kwrap .u32 x) true, ws7, false), bnd_eq n1 (bnd_eq n2 (bnd_eq n3 (bnd_eq n4 (bnd_eq n5 (bnd_eq n6 (bnd_eq n7 (bnd_eq hnew ?_))))))), fun xs w b' h => ?_⟩
    · refine bif_eq_f rfl ?_
      exact bnd_eq hloop rfl
    · cases h
      exact ⟨by rw [stormf_len]; omega, storm_val a b c d s (by omega) n _ true⟩
theorem hexs_b : ∀ (l : List UInt8) (h : List Int), hexs l = some h → (∀ x ∈ h, 0 ≤ x ∧ x < 256) ∧ h.length ≤ l.length
  | [], h, hh => by cases hh; exact ⟨fun x hx => (by cases hx), Nat.le_refl _⟩
  | [_], h, hh => by cases hh
  | a :: b :: l, h, hh => by
    unfold hexs at hh
    cases h1 : hexd (a.toNat : Int) with
    | none => rw [h1] at hh; cases hh
    | some x =>
      cases h2 : hexd (b.toNat : Int) with
      | none => rw [h1, h2] at hh; cases hh
      | some y =>
        rw [h1, h2] at hh
        simp only [Option.map_eq_some_iff] at hh
        obtain ⟨r, hr, rfl⟩ := hh
        have b1 := hexd_b h1
        have b2 := hexd_b h2
        obtain ⟨g1, g2⟩ := hexs_b l r hr
        refine ⟨fun z hz => ?_, by simp only [List.length_cons]; omega⟩
        rcases List.mem_cons.1 hz with rfl | hz
        · omega
        · exact g1 z hz
theorem hx_b {w : ByteArray} {h : List Int} (hh : hx w = some h) : (∀ x ∈ h, 0 ≤ x ∧ x < 256) ∧ h.length ≤ w.size := by
  unfold hx at hh
  split at hh
  · cases hh; exact ⟨fun x hx => (by cases hx), Nat.zero_le _⟩
  · split at hh
    · cases hh
    · have := hexs_b _ _ hh
      rw [bl_len] at this; exact this
theorem slt_b {w : ByteArray} {s : Slot} (h : slt w = some s) : (n31 s.1 ∧ n31 s.2.1 ∧ n31 s.2.2.1) ∧ 0 ≤ s.2.2.2 ∧ s.2.2.2 < 4294967296 := by
  unfold slt at h
  unfold n31
  split at h
  · cases h; decide
  · split at h
    · cases h; decide
    · split at h
      · cases h; decide
      · split at h
        · rename_i a b c d hn
          cases h
          have h0 := nums_b hn 0 (by simp)
          have h1 := nums_b hn 1 (by simp)
          have h2 := nums_b hn 2 (by simp)
          have h3 := nums_b hn 3 (by simp)
          simp only [List.getElem_cons_zero, List.getElem_cons_succ, List.getD_cons_zero, List.getD_cons_succ] at h0 h1 h2 h3
          dsimp only
          omega
        · cases h
theorem slots_b : ∀ {ws : List ByteArray} {l : List Slot}, slots ws = some l → ∀ s ∈ l, (n31 s.1 ∧ n31 s.2.1 ∧ n31 s.2.2.1) ∧ 0 ≤ s.2.2.2 ∧ s.2.2.2 < 4294967296
  | [], l, h, s, hs => by cases h; cases hs
  | w :: t, l, h, s, hs => by
    unfold slots at h
    split at h
    · cases h
    · rename_i v hv
      rw [Option.map_eq_some_iff] at h
      obtain ⟨a, h1, rfl⟩ := h
      rcases List.mem_cons.1 hs with rfl | hs
      · exact slt_b hv
      · exact slots_b h1 s hs
def AnyOk : (List ByteArray) ⊕ (List Step × List ByteArray × Bool) → Prop
  | .inl _ => True
  | .inr (st, ws, bad) => st.length ≤ 64 ∧ (bad = false → ws = [] → ∀ y ∈ st, valid y)
theorem any_one {y : Step} {ws : List ByteArray} {bad : Bool} (h : bad = false → ws = [] → valid y) : AnyOk (.inr ([y], ws, bad)) := ⟨by simp, fun h1 h2 z hz => by rw [List.mem_singleton.1 hz]; exact h h1 h2⟩
theorem any_line (K : Nat) (s : ByteArray) (hs : s.size ≤ 66000) (hK : s.size + 4200 ≤ K) : ∃ q, score_reader_steps_2 K ((cutL 32 (bl s)).map ofl) false = some q ∧ AnyOk q := by
  have hcl := cut_len 32 s
  have hsz : ∀ x ∈ (cutL 32 (bl s)).map ofl, x.size ≤ s.size := fun x hx => cut_size hx
  have hne : (cutL 32 (bl s)).map ofl ≠ [] := fun h => cutL_ne 32 (bl s) (List.map_eq_nil_iff.1 h)
  generalize (cutL 32 (bl s)).map ofl = ws at hcl hsz hne ⊢
  obtain ⟨w, rest, rfl⟩ : ∃ w rest, ws = w :: rest := by
    cases ws with
    | nil => exact absurd rfl hne
    | cons w t => exact ⟨w, t, rfl⟩
  rw [List.length_cons] at hcl
  have hr1 : ∀ x ∈ rest, x.size ≤ 100000 ∧ x.size + 1 ≤ K := fun x hx => by
    have := hsz x (List.mem_cons_of_mem _ hx); omega
  have hr2 : ∀ x ∈ rest, x.size ≤ 90000 ∧ x.size + 1 ≤ K := fun x hx => by
    have := hsz x (List.mem_cons_of_mem _ hx); omega
  have hr3 : ∀ x ∈ rest, x.size ≤ 100000 ∧ x.size + 3 ≤ K := fun x hx => by
    have := hsz x (List.mem_cons_of_mem _ hx); omega
  have hw0 := word_w K (w :: rest) false
  cases c1 : beqs w ⟨#[115, 97, 109, 112, 108, 101, 115]⟩ with
  | true =>
    have P := samples_w K rest (K - rest.length - 1) false [] hr1 (by simp; omega)
    rw [show rest.length + (K - rest.length - 1) + 1 = K by omega] at P
    refine ⟨_, bnd_eq hw0 (bif_eq_t c1 (bnd_eq P rfl)), any_one (fun hb _ => ?_)⟩
    have hall : rest.all (fun w => (smp w).isSome) = true := by
      cases h : rest.all (fun w => (smp w).isSome) with
      | true => rfl
      | false => rw [h] at hb; cases hb
    have hr : ∀ x ∈ rest.map (fun w => (smp w).getD 0), -32768 ≤ x ∧ x ≤ 32767 := fun x hx => by
      obtain ⟨u, hu, rfl⟩ := List.mem_map.1 hx
      have := List.all_eq_true.1 hall u hu
      cases h : smp u with
      | none => rw [h] at this; cases this
      | some n => exact smp_b h
    exact ⟨⟨hr, by simp; omega, fun x hx => (by cases hx), Nat.zero_le _, fun x hx => (by cases hx), Nat.zero_le _, fun x hx => (by cases hx), Nat.zero_le _⟩, rfl⟩
  | false =>
  cases c2 : beqs w ⟨#[116, 111, 110, 101]⟩ with
  | true =>
    obtain ⟨z, t1, t2⟩ := tone_p K (by omega) rest hr1
    rcases z with w' | ⟨xs, w', b⟩
    · exact ⟨_, bnd_eq hw0 (bif_eq_f c1 (bif_eq_t c2 (bnd_eq t1 rfl))), any_one (fun hb _ => by cases hb)⟩
    · obtain ⟨g1, g2⟩ := t2 xs w' b rfl
      exact ⟨_, bnd_eq hw0 (bif_eq_f c1 (bif_eq_t c2 (bnd_eq t1 rfl))), any_one (fun _ _ => ⟨⟨g2, by dsimp only; omega, fun x hx => (by cases hx), Nat.zero_le _, fun x hx => (by cases hx), Nat.zero_le _, fun x hx => (by cases hx), Nat.zero_le _⟩, rfl⟩)⟩
  | false =>
  cases c3 : beqs w ⟨#[99, 97, 108, 108]⟩ with
  | true =>
    have P := number_w K 99 rest false hr1 (by omega)
    have hb := rd_b (m := 99) (by decide) rest false
    generalize rd 99 rest false = q at P hb
    obtain ⟨n, t, bad⟩ := q
    dsimp only at hb
    refine ⟨_, bnd_eq hw0 (bif_eq_f c1 (bif_eq_f c2 (bif_eq_t c3 (bnd_eq P rfl)))), any_one (fun _ _ => ⟨⟨fun x hx => (by cases hx), Nat.zero_le _, fun x hx => (by cases hx), Nat.zero_le _, fun x hx => (by cases hx), Nat.zero_le _, fun x hx => (by cases hx), Nat.zero_le _⟩, ?_⟩)⟩
    have : toldT (2, (n, ([], ([], ([], []))))) = if 0 ≤ n ∧ n ≤ 99 then some (tCall ++ dgs n.toNat) else none := rfl
    rw [this, if_pos hb]; rfl
  | false =>
  cases c4 : beqs w ⟨#[101, 110, 100, 115]⟩ with
  | true =>
    obtain ⟨A, B, ws', bad, z1, z2, e1, e2, rfl, rfl, rfl, rfl, e3, e4⟩ := ends_w K rest hr3
    have P : score_reader_steps_2 K (w :: rest) false = some (.inr ([(3, (0, ([], ((unb z1).1, ((unb z2).1, [])))))], (unb z2).2.1, (unb z2).2.2)) := by
      refine bnd_eq hw0 (bif_eq_f c1 (bif_eq_f c2 (bif_eq_f c3 (bif_eq_t c4 ?_))))
      refine bnd_eq e1 ?_
      rcases z1 with ⟨l1, b1⟩ | ⟨a1, l1, b1⟩
      · refine bnd_eq e2 ?_
        rcases z2 with ⟨l2, b2⟩ | ⟨a2, l2, b2⟩ <;> rfl
      · refine bnd_eq e2 ?_
        rcases z2 with ⟨l2, b2⟩ | ⟨a2, l2, b2⟩ <;> rfl
    refine ⟨_, P, any_one (fun hb hw => ?_)⟩
    by_cases hq : ∃ x y a b, rest = [x, y] ∧ hx x = some a ∧ hx y = some b
    · obtain ⟨x, y, a, b, rfl, ha, hb'⟩ := hq
      obtain ⟨f1, f2, _, _⟩ := e3 x y a b rfl ha hb'
      rw [f1, f2]
      have va := hx_b ha
      have vb := hx_b hb'
      have sx := hr3 x (by simp)
      have sy := hr3 y (by simp)
      have zx := hsz x (by simp)
      have zy := hsz y (by simp)
      exact ⟨⟨fun x hx => (by cases hx), Nat.zero_le _, va.1, by dsimp only; omega, vb.1, by dsimp only; omega, fun x hx => (by cases hx), Nat.zero_le _⟩, rfl⟩
    · rcases e4 hq with h | h
      · rw [h] at hb; cases hb
      · exact absurd hw h
  | false =>
  cases c5 : beqs w ⟨#[105, 110, 116, 101, 114, 118, 97, 108]⟩ with
  | true =>
    obtain ⟨r, P, hrl, hP⟩ := slots_w K rest (K - rest.length - 1) false [] hr2 (by simp; omega)
    rw [show rest.length + (K - rest.length - 1) + 1 = K by omega] at P
    refine ⟨_, bnd_eq hw0 (bif_eq_f c1 (bif_eq_f c2 (bif_eq_f c3 (bif_eq_f c4 (bnd_eq (bif_eq_t c5 (bnd_eq P rfl)) rfl))))), any_one (fun hb _ => ?_)⟩
    cases hs' : slots rest with
    | none => rw [hs'] at hb; cases hb
    | some l =>
      have := hP l hs'
      subst this
      have hl := slots_len hs'
      exact valid4 (slots_b hs') (by simp at hrl ⊢; omega)
  | false =>
  cases c6 : beqs w ⟨#[115, 116, 111, 114, 109]⟩ with
  | true =>
    obtain ⟨z, t1, t2⟩ := storm_p K (by omega) rest hr1
    rcases z with w' | ⟨xs, w', b⟩
    · exact ⟨_, bnd_eq hw0 (bif_eq_f c1 (bif_eq_f c2 (bif_eq_f c3 (bif_eq_f c4 (bnd_eq (bif_eq_f c5 (bif_eq_t c6 (bnd_eq t1 rfl))) rfl))))), trivial⟩
    · obtain ⟨g1, g2⟩ := t2 xs w' b rfl
      exact ⟨_, bnd_eq hw0 (bif_eq_f c1 (bif_eq_f c2 (bif_eq_f c3 (bif_eq_f c4 (bnd_eq (bif_eq_f c5 (bif_eq_t c6 (bnd_eq t1 rfl))) rfl))))), g1, fun _ _ => g2⟩
  | false =>
    exact ⟨_, bnd_eq hw0 (bif_eq_f c1 (bif_eq_f c2 (bif_eq_f c3 (bif_eq_f c4 (bnd_eq (bif_eq_f c5 (bif_eq_f c6 rfl)) rfl))))), any_one (fun hb _ => by cases hb)⟩
end Go.Fo
