/- A line: the program's steps are the document's. -/
import Derived.Test.YtphienllhdoenaaDoorSc3Sh
namespace Go.Fo
set_option maxRecDepth 6000
theorem storm2_w (K : Nat) (hK : 4200 ≤ K) (ws : List ByteArray) (hw : ∀ w ∈ ws, w.size ≤ 100000 ∧ w.size + 1 ≤ K) :
    ∃ z, score_reader_storm_2 K ws false = some z ∧
      (∀ l, numw ws [4294967295, 65536, 65536, 65536, 65536, 64, 16] = some l → ∃ st, z = .inr (st, [], false) ∧ st.length ≤ 64 ∧ (∀ y ∈ st, y.2.2.1.length = 0 ∧ y.2.2.2.2.2.length ≤ 16) ∧ psalteryref34_Line.l3 K l (l.getD 1 0) (l.getD 2 0) (l.getD 3 0) (l.getD 4 0) K 0 (kwrap .u64 (l.getD 0 0)) true [] = some st) ∧
      (numw ws [4294967295, 65536, 65536, 65536, 65536, 64, 16] = none → (∃ w', z = .inl w') ∨ ∃ xs w' b, z = .inr (xs, w', b) ∧ (b = true ∨ w' ≠ []) ∧ xs.length ≤ 64) := by
  have s1 := rd_sub 4294967295 ws false
  have b1 := rd_b (m := 4294967295) (by decide) ws false
  have n1 := number_w K 4294967295 ws false hw (by omega)
  generalize h1 : rd 4294967295 ws false = q1 at s1 b1 n1
  obtain ⟨x, ws1, bad1⟩ := q1
  have hw1 : ∀ w ∈ ws1, w.size ≤ 100000 ∧ w.size + 1 ≤ K := fun w h => hw w (s1 w h)
  have s2 := rd_sub 65536 ws1 bad1
  have b2 := rd_b (m := 65536) (by decide) ws1 bad1
  have n2 := number_w K 65536 ws1 bad1 hw1 (by omega)
  generalize h2 : rd 65536 ws1 bad1 = q2 at s2 b2 n2
  obtain ⟨a, ws2, bad2⟩ := q2
  have hw2 : ∀ w ∈ ws2, w.size ≤ 100000 ∧ w.size + 1 ≤ K := fun w h => hw1 w (s2 w h)
  have s3 := rd_sub 65536 ws2 bad2
  have b3 := rd_b (m := 65536) (by decide) ws2 bad2
  have n3 := number_w K 65536 ws2 bad2 hw2 (by omega)
  generalize h3 : rd 65536 ws2 bad2 = q3 at s3 b3 n3
  obtain ⟨b, ws3, bad3⟩ := q3
  have hw3 : ∀ w ∈ ws3, w.size ≤ 100000 ∧ w.size + 1 ≤ K := fun w h => hw2 w (s3 w h)
  have s4 := rd_sub 65536 ws3 bad3
  have b4 := rd_b (m := 65536) (by decide) ws3 bad3
  have n4 := number_w K 65536 ws3 bad3 hw3 (by omega)
  generalize h4 : rd 65536 ws3 bad3 = q4 at s4 b4 n4
  obtain ⟨c, ws4, bad4⟩ := q4
  have hw4 : ∀ w ∈ ws4, w.size ≤ 100000 ∧ w.size + 1 ≤ K := fun w h => hw3 w (s4 w h)
  have s5 := rd_sub 65536 ws4 bad4
  have b5 := rd_b (m := 65536) (by decide) ws4 bad4
  have n5 := number_w K 65536 ws4 bad4 hw4 (by omega)
  generalize h5 : rd 65536 ws4 bad4 = q5 at s5 b5 n5
  obtain ⟨d, ws5, bad5⟩ := q5
  have hw5 : ∀ w ∈ ws5, w.size ≤ 100000 ∧ w.size + 1 ≤ K := fun w h => hw4 w (s5 w h)
  have s6 := rd_sub 64 ws5 bad5
  have b6 := rd_b (m := 64) (by decide) ws5 bad5
  have n6 := number_w K 64 ws5 bad5 hw5 (by omega)
  generalize h6 : rd 64 ws5 bad5 = q6 at s6 b6 n6
  obtain ⟨n, ws6, bad6⟩ := q6
  have hw6 : ∀ w ∈ ws6, w.size ≤ 100000 ∧ w.size + 1 ≤ K := fun w h => hw5 w (s6 w h)
  have b7 := rd_b (m := 16) (by decide) ws6 bad6
  have n7 := number_w K 16 ws6 bad6 hw6 (by omega)
  generalize h7 : rd 16 ws6 bad6 = q7 at b7 n7
  obtain ⟨s, ws7, bad7⟩ := q7
  have hr : rdn [4294967295, 65536, 65536, 65536, 65536, 64, 16] ws false = ([x, a, b, c, d, n, s], ws7, bad7) := by
    simp only [rdn, h1, h2, h3, h4, h5, h6, h7]
  dsimp only at b1 b2 b3 b4 b5 b6 b7
  obtain ⟨n, rfl⟩ : ∃ q : Nat, n = q := ⟨n.toNat, by omega⟩
  obtain ⟨s, rfl⟩ : ∃ q : Nat, s = q := ⟨s.toNat, by omega⟩
  have hnew : weather_New K a b c d (kwrap .u32 x) = some (.inr ()) := bnd_eq (check_ok K (by omega) b2 b3 b4 b5) rfl
  cases bad7 with
  | true =>
    refine ⟨.inl ws7, bnd_eq n1 (bnd_eq n2 (bnd_eq n3 (bnd_eq n4 (bnd_eq n5 (bnd_eq n6 (bnd_eq n7 (bnd_eq hnew rfl))))))), fun l hl => ?_, fun _ => .inl ⟨_, rfl⟩⟩
    rw [rdn_some hl] at hr
    simp only [Prod.mk.injEq, Bool.false_eq_true, and_false] at hr
  | false =>
    have hx : kwrap .u32 x = x := by rw [kw_u32]; omega
    have hx2 : kwrap .u64 x = x := by rw [kw_u64]; omega
    have hloop := storm_w K (by omega) s (by omega) (n : Int) a b c d (by omega) ws7 false n K 0 x true [] (by omega) (by omega) (by omega) rfl
    rw [List.nil_append] at hloop
    refine ⟨.inr (stormf a b c d s n x true, ws7, false), bnd_eq n1 (bnd_eq n2 (bnd_eq n3 (bnd_eq n4 (bnd_eq n5 (bnd_eq n6 (bnd_eq n7 (bnd_eq hnew ?_))))))), fun l hl => ?_, fun hl => .inr ⟨_, _, _, rfl, ?_, by rw [stormf_len]; omega⟩⟩
    · refine bif_eq_f rfl ?_
      rw [hx]
      exact bnd_eq hloop rfl
    · rw [rdn_some hl] at hr
      simp only [Prod.mk.injEq] at hr
      obtain ⟨rfl, rfl, _⟩ := hr
      refine ⟨_, rfl, by rw [stormf_len]; omega, fun y hy => ?_, ?_⟩
      · have := stormf_mem a b c d s n x true y hy
        exact ⟨this.1, by omega⟩
      · show psalteryref34_Line.l3 K [x, a, b, c, d, (n : Int), (s : Int)] a b c d K 0 (kwrap .u64 x) true [] = _
        rw [hx2]
        have := rstorm_w K (by omega) [x, a, b, c, d, (n : Int), (s : Int)] s (by omega) (n : Int) a b c d (by omega) rfl rfl (by simp) n K 0 x true [] (by omega) (by omega) (by omega) rfl
        rw [List.nil_append] at this
        exact this
    · have := rdn_none hl
      rw [hr] at this
      exact this
def okS (B : Nat) (st : List Step) : Prop := st.length ≤ 64 ∧ ∀ y ∈ st, y.2.2.1.length ≤ B ∧ y.2.2.2.2.2.length ≤ B
theorem okS_one {B : Nat} {y : Step} (h1 : y.2.2.1.length ≤ B) (h2 : y.2.2.2.2.2.length ≤ B) : okS B [y] := ⟨by simp, fun z hz => by rw [List.mem_singleton.1 hz]; exact ⟨h1, h2⟩⟩
def Good (B : Nat) : Unit ⊕ List Step → (List ByteArray) ⊕ (List Step × List ByteArray × Bool) → Prop
  | .inr st, .inr (st', ws, bad) => st' = st ∧ ws = [] ∧ bad = false ∧ okS B st
  | .inl _, .inl _ => True
  | .inl _, .inr (st', ws, bad) => (bad = true ∨ ws ≠ []) ∧ st'.length ≤ 64
  | .inr _, .inl _ => False
theorem ends_w (K : Nat) (rest : List ByteArray) (hw : ∀ w ∈ rest, w.size ≤ 100000 ∧ w.size + 3 ≤ K) :
    ∃ A B ws bad z1 z2, score_reader_bytes_2 K rest false = some z1 ∧ score_reader_bytes_2 K (unb z1).2.1 (unb z1).2.2 = some z2 ∧ A = (unb z1).1 ∧ B = (unb z2).1 ∧ ws = (unb z2).2.1 ∧ bad = (unb z2).2.2 ∧
      (∀ x y a b, rest = [x, y] → hx x = some a → hx y = some b → A = a ∧ B = b ∧ ws = [] ∧ bad = false) ∧ (¬ (∃ x y a b, rest = [x, y] ∧ hx x = some a ∧ hx y = some b) → bad = true ∨ ws ≠ []) := by
  match rest, hw with
  | [], _ => exact ⟨[], [], [], true, _, _, bytes_nil K false, bytes_nil K true, rfl, rfl, rfl, rfl, (fun x y a b h => by cases h), fun _ => .inl rfl⟩
  | [x], hw =>
    obtain ⟨z1, g1, g2, g3, g4⟩ := bytes_w K x [] false (hw x (by simp)).1 (by have := (hw x (by simp)).2; omega)
    refine ⟨(unb z1).1, [], [], true, z1, .inl ([], true), g1, by rw [g2]; exact bytes_nil K _, rfl, rfl, rfl, rfl, (fun x y a b h => by cases h), fun _ => .inl rfl⟩
  | x :: y :: t, hw =>
    have hx1 := hw x (by simp)
    have hy1 := hw y (by simp)
    obtain ⟨z1, g1, g2, g3, g4⟩ := bytes_w K x (y :: t) false hx1.1 (by omega)
    obtain ⟨z2, k1, k2, k3, k4⟩ := bytes_w K y t (unb z1).2.2 hy1.1 (by omega)
    refine ⟨_, _, _, _, z1, z2, g1, by rw [g2]; exact k1, rfl, rfl, rfl, rfl, fun x' y' a b h ha hb => ?_, fun hn => ?_⟩
    · simp only [List.cons.injEq] at h
      obtain ⟨rfl, rfl, rfl⟩ := h
      obtain ⟨e1, e2⟩ := g3 a ha
      obtain ⟨e3, e4⟩ := k3 b hb
      exact ⟨e1, e3, k2, e4.trans e2⟩
    · cases t with
      | cons u t => right; rw [k2]; simp
      | nil =>
        left
        cases hb : hx y with
        | none => exact k4 hb
        | some b =>
          cases ha : hx x with
          | none => rw [(k3 b hb).2]; exact g4 ha
          | some a => exact absurd ⟨x, y, a, b, rfl, ha, hb⟩ hn
theorem line_w (K : Nat) (s : ByteArray) (hs : s.size ≤ 66000) (hK : s.size + 4200 ≤ K) : ∃ r q, psalteryref34_Line K s = some r ∧ score_reader_steps_2 K ((cutL 32 (bl s)).map ofl) false = some q ∧ Good (s.size + 4100) r q := by
  have hcl := cut_len 32 s
  have hsz : ∀ x ∈ (cutL 32 (bl s)).map ofl, x.size ≤ s.size := fun x hx => cut_size hx
  have hne : (cutL 32 (bl s)).map ofl ≠ [] := fun h => cutL_ne 32 (bl s) (List.map_eq_nil_iff.1 h)
  have hc : psalteryref34_Cut K s 32 = some ((cutL 32 (bl s)).map ofl) := rcut_w K s 32 (by omega) (by omega)
  generalize (cutL 32 (bl s)).map ofl = ws at hcl hsz hne hc ⊢
  obtain ⟨w, rest, rfl⟩ : ∃ w rest, ws = w :: rest := by
    cases ws with
    | nil => exact absurd rfl hne
    | cons w t => exact ⟨w, t, rfl⟩
  rw [List.length_cons] at hcl
  have hr1 : ∀ x ∈ rest, x.size ≤ 100000 ∧ x.size + 1 ≤ K := fun x hx => by
    have := hsz x (List.mem_cons_of_mem _ hx); omega
  have hr2 : ∀ x ∈ rest, x.size ≤ 90000 ∧ x.size + 1 ≤ K := fun x hx => by
    have := hsz x (List.mem_cons_of_mem _ hx); omega
  have hr3 : ∀ x ∈ rest, x.size ≤ 100000 ∧ x.size + 3 ≤ K := fun x hx => by
    have := hsz x (List.mem_cons_of_mem _ hx); omega
  have hw2 : ∀ x ∈ w :: rest, x.size ≤ 90000 ∧ x.size + 1 ≤ K := fun x hx => by
    have := hsz x hx; omega
  have hw0 := word_w K (w :: rest) false
  have g0 : (0 : Int) < ((w :: rest).length : Int) := by rw [List.length_cons]; omega
  have g1 : 1 ≤ ((w :: rest).length : Int) ∧ ((w :: rest).length : Int) ≤ ((w :: rest).length : Int) := by rw [List.length_cons]; omega
  have etl : ((w :: rest).take (Int.toNat ((w :: rest).length : Int))).drop (Int.toNat 1) = rest := by
    rw [Int.toNat_natCast, List.take_of_length_le (Nat.le_refl _)]; rfl
  cases c1 : beqs w ⟨#[115, 97, 109, 112, 108, 101, 115]⟩ with
  | true =>
    have P := samples_w K rest (K - rest.length - 1) false [] hr1 (by simp; omega)
    have R := rsamples_w K (by omega) (w :: rest) (by rw [List.length_cons]; omega) rest 1 (K - rest.length - 1) [] rfl (by simp)
    rw [show rest.length + (K - rest.length - 1) + 1 = K by omega] at P R
    cases ha : rest.all (fun w => (smp w).isSome) with
    | true =>
      rw [ha] at P
      rw [if_pos ha] at R
      refine ⟨_, _, bnd_eq hc (gd_eq g0 (bif_eq_t c1 (bnd_eq R rfl))), bnd_eq hw0 (bif_eq_t c1 (bnd_eq P rfl)), ?_⟩
      exact ⟨rfl, rfl, rfl, okS_one (by simp; omega) (by simp)⟩
    | false =>
      rw [ha] at P
      rw [if_neg (by rw [ha]; decide)] at R
      exact ⟨_, _, bnd_eq hc (gd_eq g0 (bif_eq_t c1 (bnd_eq R rfl))), bnd_eq hw0 (bif_eq_t c1 (bnd_eq P rfl)), .inl rfl, by simp⟩
  | false =>
  cases c2 : beqs w ⟨#[116, 111, 110, 101]⟩ with
  | true =>
    obtain ⟨z, t1, t2, t3⟩ := tone_w K (by omega) rest hr1
    have N := numbers_w K (by omega) rest [32767, 65535, 65535, 4096] (by omega) (by simp; omega)
    cases hn : numw rest [32767, 65535, 65535, 4096] with
    | none =>
      rw [hn] at N
      have R : psalteryref34_Line K s = some (.inl ()) := bnd_eq hc (gd_eq g0 (bif_eq_f c1 (bif_eq_t c2 (gd_eq g1 (by
        rw [etl]; exact bnd_eq N rfl)))))
      rcases t3 hn with ⟨w', rfl⟩ | ⟨xs, w', b, rfl, hb⟩
      · exact ⟨_, _, R, bnd_eq hw0 (bif_eq_f c1 (bif_eq_t c2 (bnd_eq t1 rfl))), .inl rfl, by simp⟩
      · exact ⟨_, _, R, bnd_eq hw0 (bif_eq_f c1 (bif_eq_t c2 (bnd_eq t1 rfl))), hb, by simp⟩
    | some l =>
      rw [hn] at N
      obtain ⟨a, n, d, c, rfl⟩ := nums4 hn
      obtain ⟨u1, u2⟩ := t2 _ hn
      by_cases hd : d = 0
      · obtain ⟨w', rfl⟩ := u1 hd
        refine ⟨.inl (), _, bnd_eq hc (gd_eq g0 (bif_eq_f c1 (bif_eq_t c2 (gd_eq g1 ?_)))), bnd_eq hw0 (bif_eq_f c1 (bif_eq_t c2 (bnd_eq t1 rfl))), .inl rfl, by simp⟩
        rw [etl]
        refine bnd_eq N ?_
        refine gd_eq (by simp) ?_
        exact bif_eq_t (beq_iff_eq.2 hd) rfl
      · obtain ⟨xs, rfl, hxl, hl1⟩ := u2 hd
        refine ⟨.inr [(1, (0, (xs, ([], ([], [])))))], _, bnd_eq hc (gd_eq g0 (bif_eq_f c1 (bif_eq_t c2 (gd_eq g1 ?_)))), bnd_eq hw0 (bif_eq_f c1 (bif_eq_t c2 (bnd_eq t1 rfl))), rfl, rfl, rfl, okS_one (by dsimp only; omega) (by simp)⟩
        rw [etl]
        refine bnd_eq N ?_
        refine gd_eq (by simp) ?_
        refine bif_eq_f (beq_eq_false_iff_ne.2 hd) ?_
        exact bnd_eq hl1 rfl
  | false =>
  cases c3 : beqs w ⟨#[99, 97, 108, 108]⟩ with
  | true =>
    have N := numbers_w K (by omega) rest [99] (by omega) (by simp; omega)
    have P := number_w K 99 rest false hr1 (by omega)
    cases hn : numw rest [99] with
    | none =>
      rw [hn] at N
      refine ⟨.inl (), _, bnd_eq hc (gd_eq g0 (bif_eq_f c1 (bif_eq_f c2 (bif_eq_t c3 (gd_eq g1 ?_))))), bnd_eq hw0 (bif_eq_f c1 (bif_eq_f c2 (bif_eq_t c3 (bnd_eq P rfl)))), ?_, by simp⟩
      · rw [etl]; exact bnd_eq N rfl
      · exact rdn_none hn
    | some l =>
      rw [hn] at N
      have hl := (nums_len hn).2
      obtain ⟨a, rfl⟩ : ∃ a, l = [a] := by
        match l, hl with
        | [a], _ => exact ⟨a, rfl⟩
      have hrd := rdn_some (bad := false) hn
      simp only [rdn, Prod.mk.injEq, List.cons.injEq, and_true] at hrd
      have hrd' : rd 99 rest false = (a, [], false) := Prod.ext hrd.1 (Prod.ext hrd.2.1 hrd.2.2)
      rw [hrd'] at P
      refine ⟨.inr [(2, (a, ([], ([], ([], [])))))], _, bnd_eq hc (gd_eq g0 (bif_eq_f c1 (bif_eq_f c2 (bif_eq_t c3 (gd_eq g1 ?_))))), bnd_eq hw0 (bif_eq_f c1 (bif_eq_f c2 (bif_eq_t c3 (bnd_eq P rfl)))), rfl, rfl, rfl, okS_one (by simp) (by simp)⟩
      rw [etl]
      refine bnd_eq N ?_
      exact gd_eq (by simp) rfl
  | false =>
  cases c4 : beqs w ⟨#[101, 110, 100, 115]⟩ with
  | true =>
    obtain ⟨A, B, ws', bad, z1, z2, e1, e2, rfl, rfl, rfl, rfl, e3, e4⟩ := ends_w K rest hr3
    have P : score_reader_steps_2 K (w :: rest) false = some (.inr ([(3, (0, ([], ((unb z1).1, ((unb z2).1, [])))))], (unb z2).2.1, (unb z2).2.2)) := by
      refine bnd_eq hw0 (bif_eq_f c1 (bif_eq_f c2 (bif_eq_f c3 (bif_eq_t c4 ?_))))
      refine bnd_eq e1 ?_
      rcases z1 with ⟨l1, b1⟩ | ⟨a1, l1, b1⟩
      · refine bnd_eq e2 ?_
        rcases z2 with ⟨l2, b2⟩ | ⟨a2, l2, b2⟩ <;> rfl
      · refine bnd_eq e2 ?_
        rcases z2 with ⟨l2, b2⟩ | ⟨a2, l2, b2⟩ <;> rfl
    by_cases hq : ∃ x y a b, rest = [x, y] ∧ hx x = some a ∧ hx y = some b
    · obtain ⟨x, y, a, b, rfl, ha, hb⟩ := hq
      obtain ⟨f1, f2, f3, f4⟩ := e3 x y a b rfl ha hb
      rw [f1, f2, f3, f4] at P
      refine ⟨.inr [(3, (0, ([], (a, (b, [])))))], _, ?_, P, rfl, rfl, rfl, okS_one (by simp) (by simp)⟩
      refine bnd_eq hc (gd_eq g0 (bif_eq_f c1 (bif_eq_f c2 (bif_eq_f c3 (bif_eq_t c4 ?_)))))
      refine bif_eq_f rfl ?_
      have hx3 := hr3 x (by simp)
      have hy3 := hr3 y (by simp)
      obtain ⟨y1, v1, v2, v3⟩ := hex_w K x hx3.1 hx3.2
      obtain ⟨y2, v4, v5, v6⟩ := hex_w K y hy3.1 hy3.2
      refine gd_eq (by simp) ?_
      refine bnd_eq v1 ?_
      rcases v2 a ha with ⟨rfl, rfl⟩ | rfl
      · refine gd_eq (by simp) ?_
        refine bnd_eq v4 ?_
        rcases v5 b hb with ⟨rfl, rfl⟩ | rfl <;> rfl
      · refine gd_eq (by simp) ?_
        refine bnd_eq v4 ?_
        rcases v5 b hb with ⟨rfl, rfl⟩ | rfl <;> rfl
    · refine ⟨.inl (), _, ?_, P, e4 hq, by simp⟩
      refine bnd_eq hc (gd_eq g0 (bif_eq_f c1 (bif_eq_f c2 (bif_eq_f c3 (bif_eq_t c4 ?_)))))
      by_cases hl : rest.length = 2
      · obtain ⟨x, y, rfl⟩ : ∃ x y, rest = [x, y] := by
          match rest, hl with
          | [x, y], _ => exact ⟨x, y, rfl⟩
        refine bif_eq_f rfl ?_
        have hx3 := hr3 x (by simp)
        have hy3 := hr3 y (by simp)
        obtain ⟨y1, v1, v2, v3⟩ := hex_w K x hx3.1 hx3.2
        obtain ⟨y2, v4, v5, v6⟩ := hex_w K y hy3.1 hy3.2
        refine gd_eq (by simp) ?_
        refine bnd_eq v1 ?_
        cases ha : hx x with
        | none =>
          rw [v3 ha]
          refine gd_eq (by simp) ?_
          refine bnd_eq v4 ?_
          rcases y2 with b2 | l2 <;> rfl
        | some a =>
          cases hb : hx y with
          | some b => exact absurd ⟨x, y, a, b, rfl, ha, hb⟩ hq
          | none =>
            rw [v6 hb] at v4
            rcases v2 a ha with ⟨rfl, rfl⟩ | rfl
            · exact gd_eq (by simp) (bnd_eq v4 rfl)
            · exact gd_eq (by simp) (bnd_eq v4 rfl)
      · exact bif_eq_t (bne_iff_ne.2 (by rw [List.length_cons]; omega)) rfl
  | false =>
  cases c5 : beqs w ⟨#[105, 110, 116, 101, 114, 118, 97, 108]⟩ with
  | true =>
    obtain ⟨r, P, hrl, hP⟩ := slots_w K rest (K - rest.length - 1) false [] hr2 (by simp; omega)
    have R := rslots_w K (by omega) (w :: rest) (by rw [List.length_cons]; omega) hw2 rest 1 (K - rest.length - 1) [] rfl (by simp)
    rw [show rest.length + (K - rest.length - 1) + 1 = K by omega] at P R
    cases hs' : slots rest with
    | none =>
      rw [hs'] at P R
      exact ⟨_, _, bnd_eq hc (gd_eq g0 (bif_eq_f c1 (bif_eq_f c2 (bif_eq_f c3 (bif_eq_f c4 (bif_eq_t c5 (bnd_eq R rfl))))))), bnd_eq hw0 (bif_eq_f c1 (bif_eq_f c2 (bif_eq_f c3 (bif_eq_f c4 (bnd_eq (bif_eq_t c5 (bnd_eq P rfl)) rfl))))), .inl rfl, by simp⟩
    | some l =>
      rw [hs'] at P R
      have := hP l hs'
      subst this
      refine ⟨.inr [(4, (0, ([], ([], ([], r)))))], _, bnd_eq hc (gd_eq g0 (bif_eq_f c1 (bif_eq_f c2 (bif_eq_f c3 (bif_eq_f c4 (bif_eq_t c5 (bnd_eq R rfl))))))), bnd_eq hw0 (bif_eq_f c1 (bif_eq_f c2 (bif_eq_f c3 (bif_eq_f c4 (bnd_eq (bif_eq_t c5 (bnd_eq P rfl)) rfl))))), rfl, rfl, rfl, okS_one (by simp) ?_⟩
      have := slots_len hs'
      dsimp only; omega
  | false =>
  cases c6 : beqs w ⟨#[115, 116, 111, 114, 109]⟩ with
  | true =>
    obtain ⟨z, t1, t2, t3⟩ := storm2_w K (by omega) rest hr1
    have N := numbers_w K (by omega) rest [4294967295, 65536, 65536, 65536, 65536, 64, 16] (by omega) (by simp; omega)
    cases hn : numw rest [4294967295, 65536, 65536, 65536, 65536, 64, 16] with
    | none =>
      rw [hn] at N
      have R : psalteryref34_Line K s = some (.inl ()) := bnd_eq hc (gd_eq g0 (bif_eq_f c1 (bif_eq_f c2 (bif_eq_f c3 (bif_eq_f c4 (bif_eq_f c5 (bif_eq_t c6 (gd_eq g1 (by
        rw [etl]; exact bnd_eq N rfl)))))))))
      rcases t3 hn with ⟨w', rfl⟩ | ⟨xs, w', b, rfl, hb, hxl⟩
      · exact ⟨_, _, R, bnd_eq hw0 (bif_eq_f c1 (bif_eq_f c2 (bif_eq_f c3 (bif_eq_f c4 (bnd_eq (bif_eq_f c5 (bif_eq_t c6 (bnd_eq t1 rfl))) rfl))))), trivial⟩
      · exact ⟨_, _, R, bnd_eq hw0 (bif_eq_f c1 (bif_eq_f c2 (bif_eq_f c3 (bif_eq_f c4 (bnd_eq (bif_eq_f c5 (bif_eq_t c6 (bnd_eq t1 rfl))) rfl))))), hb, hxl⟩
    | some l =>
      rw [hn] at N
      have hl := (nums_len hn).2
      obtain ⟨st, rfl, u1, u2, u3⟩ := t2 l hn
      obtain ⟨x, a, b, c, d, n, m, rfl⟩ : ∃ x a b c d n m, l = [x, a, b, c, d, n, m] := by
        match l, hl with
        | [x, a, b, c, d, n, m], _ => exact ⟨x, a, b, c, d, n, m, rfl⟩
      refine ⟨.inr st, _, bnd_eq hc (gd_eq g0 (bif_eq_f c1 (bif_eq_f c2 (bif_eq_f c3 (bif_eq_f c4 (bif_eq_f c5 (bif_eq_t c6 (gd_eq g1 ?_)))))))), bnd_eq hw0 (bif_eq_f c1 (bif_eq_f c2 (bif_eq_f c3 (bif_eq_f c4 (bnd_eq (bif_eq_f c5 (bif_eq_t c6 (bnd_eq t1 rfl))) rfl))))), rfl, rfl, rfl, u1, fun y hy => ?_⟩
      · rw [etl]
        refine bnd_eq N ?_
        refine gd_eq (by simp) ?_
        refine gd_eq (by simp) ?_
        refine gd_eq (by simp) ?_
        refine gd_eq (by simp) ?_
        refine gd_eq (by simp) ?_
        exact bnd_eq u3 rfl
      · have := u2 y hy
        omega
  | false =>
    exact ⟨_, _, bnd_eq hc (gd_eq g0 (bif_eq_f c1 (bif_eq_f c2 (bif_eq_f c3 (bif_eq_f c4 (bif_eq_f c5 (bif_eq_f c6 rfl))))))), bnd_eq hw0 (bif_eq_f c1 (bif_eq_f c2 (bif_eq_f c3 (bif_eq_f c4 (bnd_eq (bif_eq_f c5 (bif_eq_f c6 rfl)) rfl))))), .inl rfl, by simp⟩
end Go.Fo
