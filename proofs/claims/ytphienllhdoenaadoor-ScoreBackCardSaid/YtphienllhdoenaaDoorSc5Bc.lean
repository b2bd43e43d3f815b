/- The lines: of any text, and of a told one. -/
import Derived.Test.YtphienllhdoenaaDoorSc5Bb
namespace Go.Fo
set_option maxRecDepth 6000
def okA (B : Nat) (st : List Step) : Prop := ∀ y ∈ st, y.2.2.1.length ≤ B ∧ y.2.2.2.2.2.length ≤ B
theorem beqs_emp (l : List UInt8) : beqs (ofl l) ⟨#[]⟩ = decide (l = []) := by
  rw [beqs_bl, bl_ofl]
  cases l with
  | nil => rfl
  | cons x l => rw [decide_eq_false (by simp)]; rfl
theorem to_w (K B : Nat) (l : List Step) (hl : l.length ≤ 4096) (hA : okA B l) (hB : B ≤ 100000) (hK : B + 4200 ≤ K) : psalterylaw34_to_2 K l = some l := by
  refine bnd_eq (x := l) ?_ rfl
  have hmem : ∀ k, k < l.length → (Kd.nth (.pair (.int .i64) (.pair (.int .i64) (.pair (.slice (.int .i16)) (.pair (.slice (.int .u8)) (.pair (.slice (.int .u8)) (.slice (.pair (.int .i64) (.pair (.int .i64) (.pair (.int .i64) (.int .u32)))))))))) l k) ∈ l := fun k hk => by
    have : (Kd.nth (.pair (.int .i64) (.pair (.int .i64) (.pair (.slice (.int .i16)) (.pair (.slice (.int .u8)) (.pair (.slice (.int .u8)) (.slice (.pair (.int .i64) (.pair (.int .i64) (.pair (.int .i64) (.int .u32)))))))))) l k) = l[k] := nth_drop (List.drop_eq_getElem_cons hk)
    rw [this]; exact List.getElem_mem hk
  have h := app_loop0 (r := psalterylaw34_to_2.r0 K l) (b := fun _ _ => none) l.length (fun i => Kd.nth (.pair (.int .i64) (.pair (.int .i64) (.pair (.slice (.int .i16)) (.pair (.slice (.int .u8)) (.pair (.slice (.int .u8)) (.slice (.pair (.int .i64) (.pair (.int .i64) (.pair (.int .i64) (.int .u32)))))))))) l i) (fun k => (k : Int)) (some l) (fun next k hk => ?_) (fun next => ?_) (K := K) (by omega)
  · exact h
  · refine bif_eq_t (decide_eq_true (show (k : Int) < (l.length : Int) by omega)) ?_
    refine gd_eq ⟨by omega, by omega⟩ ?_
    refine gd_eq ⟨by omega, by omega⟩ ?_
    refine gd_eq ⟨by omega, by omega⟩ ?_
    refine gd_eq ⟨by omega, by omega⟩ ?_
    refine gd_eq ⟨by omega, by omega⟩ ?_
    have hm := hA _ (hmem k hk)
    rw [Int.toNat_natCast]
    generalize hy : (Kd.nth (.pair (.int .i64) (.pair (.int .i64) (.pair (.slice (.int .i16)) (.pair (.slice (.int .u8)) (.pair (.slice (.int .u8)) (.slice (.pair (.int .i64) (.pair (.int .i64) (.pair (.int .i64) (.int .u32)))))))))) l k) = y at hm
    refine bnd_eq (x := y.2.2.2.2.2) ?_ ?_
    · refine app_loop0 y.2.2.2.2.2.length (fun i => Kd.nth (.pair (.int .i64) (.pair (.int .i64) (.pair (.int .i64) (.int .u32)))) y.2.2.2.2.2 i) (fun k => (k : Int)) _ (fun next j hj => ?_) (fun next => ?_) (by omega)
      · unfold psalterylaw34_to_2.r1
        dsimp only
        rw [Int.toNat_natCast, hy]
        refine gd_eq ⟨by omega, by omega⟩ ?_
        refine bif_eq_t (decide_eq_true (show (j : Int) < (y.2.2.2.2.2.length : Int) by omega)) ?_
        refine gd_eq ⟨by omega, by omega⟩ ?_
        refine gd_eq ⟨by omega, by omega⟩ ?_
        rw [Int.toNat_natCast]
        refine gd_eq (by rw [tabOf_len]; simp only [List.length_cons, List.length_nil]; omega) ?_
        rw [kw_i64 (by omega) (by omega), tabOf_succ]; rfl
      · unfold psalterylaw34_to_2.r1
        dsimp only
        rw [Int.toNat_natCast, hy]
        refine gd_eq ⟨by omega, by omega⟩ ?_
        refine bif_eq_f (decide_eq_false (show ¬ ((y.2.2.2.2.2.length : Nat) : Int) < (y.2.2.2.2.2.length : Int) by omega)) ?_
        rw [nth_tab]
    · refine gd_eq (by rw [tabOf_len]; simp only [List.length_cons, List.length_nil]; omega) ?_
      rw [kw_i64 (by omega) (by omega), tabOf_succ, hy]; rfl
  · refine bif_eq_f (decide_eq_false (show ¬ ((l.length : Nat) : Int) < (l.length : Int) by omega)) ?_
    rw [nth_tab]
theorem same_w (K B : Nat) (l : List Step) (hl : l.length ≤ 4096) (hA : okA B l) (hB : B ≤ 100000) (hK : B + 4200 ≤ K) : psalteryref34_Same_2 K l l = some true := by
  refine bif_eq_f (bne_self_eq_false _) ?_
  refine bnd_eq (x := .inl ()) ?_ rfl
  refine cnt_loop0 (r := psalteryref34_Same_2.r0 K l l) l.length _ (fun next k hk => ?_) (fun next => bif_eq_f (decide_eq_false (by omega)) rfl) (by omega)
  have hm : (Kd.nth (.pair (.int .i64) (.pair (.int .i64) (.pair (.slice (.int .i16)) (.pair (.slice (.int .u8)) (.pair (.slice (.int .u8)) (.slice (.pair (.int .i64) (.pair (.int .i64) (.pair (.int .i64) (.int .u32)))))))))) l k) ∈ l := by
    have : (Kd.nth (.pair (.int .i64) (.pair (.int .i64) (.pair (.slice (.int .i16)) (.pair (.slice (.int .u8)) (.pair (.slice (.int .u8)) (.slice (.pair (.int .i64) (.pair (.int .i64) (.pair (.int .i64) (.int .u32)))))))))) l k) = l[k] := nth_drop (List.drop_eq_getElem_cons hk)
    rw [this]; exact List.getElem_mem hk
  have hy := hA _ hm
  refine bif_eq_t (decide_eq_true (by omega)) ?_
  refine gd_eq ⟨by omega, by omega⟩ ?_
  refine gd_eq ⟨by omega, by omega⟩ ?_
  rw [Int.toNat_natCast]
  generalize (Kd.nth (.pair (.int .i64) (.pair (.int .i64) (.pair (.slice (.int .i16)) (.pair (.slice (.int .u8)) (.pair (.slice (.int .u8)) (.slice (.pair (.int .i64) (.pair (.int .i64) (.pair (.int .i64) (.int .u32)))))))))) l k) = y at hy ⊢
  have bs : ∀ x : ByteArray, beqs x x = true := fun x => by rw [beqs_bl]; exact beq_self_eq_true _
  refine bif_eq_f ?_ ?_
  · rw [bs, bs]
    simp only [bne_self_eq_false, Bool.not_true, Bool.cond_false]
  refine bnd_eq (x := .inl ()) ?_ ?_
  · refine cnt_loop0 y.2.2.1.length _ (fun next j hj => ?_) (fun next => bif_eq_f (decide_eq_false (by omega)) rfl) (by omega)
    refine bif_eq_t (decide_eq_true (by omega)) ?_
    refine gd_eq ⟨by omega, by omega⟩ ?_
    refine gd_eq ⟨by omega, by omega⟩ ?_
    refine bif_eq_f (bne_self_eq_false _) ?_
    rw [kw_i64 (by omega) (by omega)]; rfl
  refine bnd_eq (x := .inl ()) ?_ ?_
  · refine cnt_loop0 y.2.2.2.2.2.length _ (fun next j hj => ?_) (fun next => bif_eq_f (decide_eq_false (by omega)) rfl) (by omega)
    refine bif_eq_t (decide_eq_true (by omega)) ?_
    refine gd_eq ⟨by omega, by omega⟩ ?_
    refine gd_eq ⟨by omega, by omega⟩ ?_
    refine bif_eq_f (by simp only [beq_self_eq_true, Bool.and_self, Bool.not_true]) ?_
    rw [kw_i64 (by omega) (by omega)]; rfl
  · rw [kw_i64 (by omega) (by omega)]; rfl
theorem any_loop (K S : Nat) (hS : S ≤ 66000) (hK : S + 4200 ≤ K) : ∀ (ps : List (List UInt8)) (rem : ByteArray) (i e : Nat) (out : List Step),
    cutL 10 (bl rem) = ps → rem.size ≤ S → i + ps.length ≤ 200000 → out.length ≤ 4096 → (∀ y ∈ out, valid y) →
    ∃ p, score_Parse.l0 K (ps.length + e + 1) rem (i : Int) out = some p ∧ ((∃ o, p = .inl o ∧ o.length ≤ 4096 ∧ ∀ y ∈ o, valid y) ∨ ∃ k, p = .inr (.inl (k, 310)))
  | [], rem, i, e, out, h1, _, _, _, _ => absurd h1 (cutL_ne 10 _)
  | [p], rem, i, e, out, h1, h3, hi, h4, h5 => by
    have hc := cutL_len 10 (bl rem)
    rw [h1] at hc
    have hno : (10 : UInt8) ∉ bl rem := by
      intro hm
      have := List.count_pos_iff.2 hm
      simp only [List.length_cons, List.length_nil] at hc; omega
    have P0 : ∀ r, score_Parse.r0 K (score_Parse.l0 K ([p].length + e)) rem (i : Int) out = r → score_Parse.l0 K ([p].length + e + 1) rem (i : Int) out = r := fun r h => h
    by_cases hl : rem.size = 0
    · refine ⟨.inl out, P0 _ ?_, .inl ⟨out, rfl, h4, h5⟩⟩
      refine bif_eq_f ?_ rfl
      rw [beqs_nil, decide_eq_true hl]; rfl
    · obtain ⟨q, l2, l3⟩ := any_line K rem (by omega) (by omega)
      refine ⟨.inr (.inl ((i : Int), 310)), P0 _ ?_, .inr ⟨_, rfl⟩⟩
      refine bif_eq_t ?_ ?_
      · rw [beqs_nil, decide_eq_false hl]; rfl
      · refine bnd_eq (x := .inr (.inl ((i : Int), 310))) ?_ rfl
        refine bnd_eq (scut_no K rem 10 hno) ?_
        refine gd_eq (fun h => by simp at h) ?_
        refine bif_eq_f rfl ?_
        refine bnd_eq (split_w K rem 32 (by omega) (by omega)) ?_
        refine bnd_eq l2 ?_
        rcases q with w' | ⟨st, ws, bad⟩
        · refine gd_eq (by simp; omega) ?_
          exact bif_eq_t rfl rfl
        · have := l3.1
          refine gd_eq (by omega) ?_
          exact bif_eq_t rfl rfl
  | p :: q :: rest, rem, i, e, out, h1, h3, hi, h4, h5 => by
    rcases first_or 10 (bl rem) with hno | ⟨p', r', hr, hp⟩
    · rw [cutL_all 10 _ hno] at h1; cases h1
    rw [hr, cutL_no 10 p' r' hp] at h1
    have h1t := (List.cons.inj h1).2
    have h1h := (List.cons.inj h1).1
    subst h1h
    rw [List.length_cons] at hi
    have hsz : (ofl p').size + (ofl r').size + 1 = rem.size := by
      rw [← bl_len, ← bl_len, ← bl_len rem, bl_ofl, bl_ofl, hr, List.length_append, List.length_cons]; omega
    have P0 : ∀ r, score_Parse.r0 K (score_Parse.l0 K ((q :: rest).length + 1 + e)) rem (i : Int) out = r → score_Parse.l0 K ((p' :: q :: rest).length + e + 1) rem (i : Int) out = r := fun r h => by
      rw [List.length_cons]; exact h
    have ih := fun out' => any_loop K S hS hK (q :: rest) (ofl r') (i + 1) e out' (by rw [bl_ofl]; exact h1t) (by omega) (by omega)
    have hne : beqs rem ⟨#[]⟩ = false := by
      rw [beqs_nil]; exact decide_eq_false (by omega)
    have hcut := scut_at K rem 10 hr hp (by omega)
    have hgp : ((true && (!(beqs (ofl p') ⟨#[]⟩))) = true → 0 < ((ofl p').size : Int)) := fun h => by
      simp only [Bool.true_and, Bool.not_eq_true'] at h
      rw [beqs_nil] at h
      have := of_decide_eq_false h; omega
    cases hsk : (bif beqs (ofl p') ⟨#[]⟩ then true else (sbyte (ofl p') 0 == 35)) with
    | true =>
      obtain ⟨P, g1, g3⟩ := ih out h4 h5
      refine ⟨P, P0 _ ?_, g3⟩
      refine bif_eq_t (by rw [hne]; rfl) ?_
      refine bnd_eq (x := .inl (ofl r', out)) ?_ ?_
      · refine bnd_eq hcut ?_
        refine gd_eq hgp ?_
        exact bif_eq_t hsk rfl
      · dsimp only
        rw [kw_i64 (by omega) (by omega), show (q :: rest).length + 1 + e = (q :: rest).length + e + 1 by omega]
        exact g1
    | false =>
      obtain ⟨z, l2, l3⟩ := any_line K (ofl p') (by omega) (by omega)
      have hsp := split_w K (ofl p') 32 (by omega) (by omega)
      have PB : ∀ zz, z = zz → (∃ w', zz = .inl w') ∨ (∃ st ws bad, zz = .inr (st, ws, bad) ∧ (bad = true ∨ ws ≠ [] ∨ (out ++ st).length > 4096) ∧ st.length ≤ 64) → score_Parse.r0 K (score_Parse.l0 K ((q :: rest).length + 1 + e)) rem (i : Int) out = some (.inr (.inl ((i : Int), 310))) := by
        intro zz hz hc
        subst hz
        refine bif_eq_t (by rw [hne]; rfl) ?_
        refine bnd_eq (x := .inr (.inl ((i : Int), 310))) ?_ rfl
        refine bnd_eq hcut ?_
        refine gd_eq hgp ?_
        refine bif_eq_f hsk ?_
        refine bnd_eq hsp ?_
        refine bnd_eq l2 ?_
        rcases hc with ⟨w', rfl⟩ | ⟨st, ws, bad, rfl, hb, hst⟩
        · refine gd_eq (by simp; omega) ?_
          exact bif_eq_t rfl rfl
        · refine gd_eq (by omega) ?_
          refine bif_eq_t ?_ rfl
          rcases hb with rfl | hb | hb
          · rfl
          · have : 0 < ws.length := List.length_pos_iff.2 hb
            rw [decide_eq_true (p := (ws.length : Int) > 0) (by omega)]
            cases bad <;> rfl
          · rw [decide_eq_true (p := (((out ++ st).length : Nat) : Int) > 4096) (by omega)]
            cases bad <;> cases decide ((ws.length : Int) > 0) <;> rfl
      rcases z with w' | ⟨st, ws, bad⟩
      · exact ⟨_, P0 _ (PB _ rfl (.inl ⟨w', rfl⟩)), .inr ⟨_, rfl⟩⟩
      · have hst := l3.1
        by_cases hb : bad = true ∨ ws ≠ [] ∨ (out ++ st).length > 4096
        · exact ⟨_, P0 _ (PB _ rfl (.inr ⟨st, ws, bad, rfl, hb, hst⟩)), .inr ⟨_, rfl⟩⟩
        · have hb1 : bad = false := by
            cases bad with
            | false => rfl
            | true => exact absurd (.inl rfl) hb
          have hb2 : ws = [] := by
            cases ws with
            | nil => rfl
            | cons x l => exact absurd (.inr (.inl (by simp))) hb
          have hb3 : ¬ (out ++ st).length > 4096 := fun h => hb (.inr (.inr h))
          subst hb1 hb2
          obtain ⟨P, g1, g3⟩ := ih (out ++ st) (by omega) (fun y hy => by
            rcases List.mem_append.1 hy with hy | hy
            · exact h5 y hy
            · exact l3.2 rfl rfl y hy)
          refine ⟨P, P0 _ ?_, g3⟩
          refine bif_eq_t (by rw [hne]; rfl) ?_
          refine bnd_eq (x := .inl (ofl r', out ++ st)) ?_ ?_
          · refine bnd_eq hcut ?_
            refine gd_eq hgp ?_
            refine bif_eq_f hsk ?_
            refine bnd_eq hsp ?_
            refine bnd_eq l2 ?_
            refine gd_eq (by omega) ?_
            exact bif_eq_f (by rw [decide_eq_false (p := (((out ++ st).length : Nat) : Int) > 4096) (by omega)]; rfl) rfl
          · dsimp only
            rw [kw_i64 (by omega) (by omega), show (q :: rest).length + 1 + e = (q :: rest).length + e + 1 by omega]
            exact g1
theorem any_parse (K : Nat) (s : ByteArray) (hs : s.size ≤ 65536) (hK : s.size + 4300 ≤ K) : ∃ r, score_Parse K s = some r ∧ ((∃ m, r = .inr m ∧ m.length ≤ 4096 ∧ ∀ y ∈ m, valid y) ∨ ∃ k, r = .inl (k, 310)) := by
  have hcl := cut_len 10 s
  rw [List.length_map] at hcl
  obtain ⟨p, g1, g3⟩ := any_loop K s.size (by omega) (by omega) (cutL 10 (bl s)) s 1 (K - (cutL 10 (bl s)).length - 1) [] rfl (Nat.le_refl _) (by omega) (by simp) (fun y hy => by cases hy)
  rw [show (cutL 10 (bl s)).length + (K - (cutL 10 (bl s)).length - 1) + 1 = K by omega] at g1
  have hb : decide ((s.size : Int) > 65536) = false := decide_eq_false (by omega)
  rcases g3 with ⟨o, rfl, h1, h2⟩ | ⟨k, rfl⟩
  · exact ⟨.inr o, bif_eq_f hb (bnd_eq g1 rfl), .inl ⟨o, rfl, h1, h2⟩⟩
  · exact ⟨.inl (k, 310), bif_eq_f hb (bnd_eq g1 rfl), .inr ⟨k, rfl⟩⟩
theorem told_loop (K : Nat) (hK : 70200 ≤ K) : ∀ (r : List Step) (u : List UInt8) (i e : Nat) (acc : List Step), prints r = some u → (∀ s ∈ r, okIn s) → u.length ≤ 65536 → i + r.length ≤ 100000 → acc.length + r.length ≤ 4096 →
    score_Parse.l0 K (r.length + e + 1) (ofl u) (i : Int) acc = some (.inl (acc ++ r))
  | [], u, i, e, acc, h, _, _, _, _ => by
    cases h
    show score_Parse.r0 K (score_Parse.l0 K (0 + e)) (ofl []) (i : Int) acc = _
    refine bif_eq_f ?_ (by rw [List.append_nil])
    rw [beqs_emp]; rfl
  | s :: r, u, i, e, acc, h, hm, hl, hi, ha => by
    rw [prints_cons] at h
    cases ht : toldT s with
    | none => rw [ht] at h; cases h
    | some t =>
      rw [ht] at h
      simp only [Option.map_eq_some_iff] at h
      obtain ⟨v, hv, rfl⟩ := h
      rw [List.length_append, List.length_cons] at hl
      rw [List.length_cons] at hi ha
      obtain ⟨b1, b2, c, t', b3, b4⟩ := line_back K s (hm s (List.mem_cons_self ..)) t ht (by omega) (by omega)
      have ih := told_loop K hK r v (i + 1) e (acc ++ [s]) hv (fun x hx => hm x (List.mem_cons_of_mem _ hx)) (by omega) (by omega) (by rw [List.length_append]; simp; omega)
      have tl : 0 < t.length := by rw [b3]; simp
      have hne : beqs (ofl t) ⟨#[]⟩ = false := by rw [beqs_emp]; exact decide_eq_false (by rw [b3]; simp)
      have hcut := scut_at K (ofl (t ++ 10 :: v)) 10 (p := t) (q := v) (bl_ofl _) b2 (by rw [ofl_size, List.length_append, List.length_cons]; omega)
      have hsp := split_w K (ofl t) 32 (by rw [ofl_size]; omega) (by rw [ofl_size]; omega)
      rw [bl_ofl] at hsp
      show score_Parse.r0 K (score_Parse.l0 K (r.length + 1 + e)) (ofl (t ++ 10 :: v)) (i : Int) acc = _
      refine bif_eq_t (by rw [beqs_emp, decide_eq_false (by simp)]; rfl) ?_
      refine bnd_eq (x := .inl (ofl v, acc ++ [s])) ?_ ?_
      · refine bnd_eq hcut ?_
        refine gd_eq (fun _ => by rw [ofl_size]; omega) ?_
        refine bif_eq_f ?_ ?_
        · show (bif beqs (ofl t) ⟨#[]⟩ then true else (sbyte (ofl t) 0 == 35)) = false
          rw [hne, b3, sb0]
          show ((c.toNat : Int) == 35) = false
          exact beq_eq_false_iff_ne.2 (fun h => b4 (UInt8.toNat_inj.1 (by
            have e35 : (35 : UInt8).toNat = 35 := rfl
            rw [e35]; omega)))
        · refine bnd_eq hsp ?_
          refine bnd_eq b1 ?_
          refine gd_eq (by simp; omega) ?_
          exact bif_eq_f (by rw [decide_eq_false (p := (((acc ++ [s]).length : Nat) : Int) > 4096) (by rw [List.length_append]; simp; omega)]; rfl) rfl
      · dsimp only
        rw [kw_i64 (by omega) (by omega), show r.length + 1 + e = r.length + e + 1 by omega]
        refine ih.trans ?_
        rw [List.append_assoc]; rfl
theorem told_parse (K : Nat) (hK : 70200 ≤ K) (l : List Step) (hl : l.length ≤ 4096) (hm : ∀ s ∈ l, okIn s) (u : List UInt8) (hu : prints l = some u) (h : u.length ≤ 65536) : score_Parse K (ofl u) = some (.inr l) := by
  have := told_loop K hK l u 1 (K - l.length - 1) [] hu hm h (by omega) (by simp; omega)
  rw [show l.length + (K - l.length - 1) + 1 = K by omega] at this
  refine bif_eq_f (decide_eq_false (by rw [ofl_size]; omega)) ?_
  exact bnd_eq this rfl
theorem prints_some : ∀ (l : List Step), (∀ s ∈ l, valid s) → ∃ u, prints l = some u
  | [], _ => ⟨[], rfl⟩
  | s :: l, h => by
    obtain ⟨u, hu⟩ := prints_some l (fun x hx => h x (List.mem_cons_of_mem _ hx))
    have hs := (h s (List.mem_cons_self ..)).2
    rw [prints_cons]
    cases ht : toldT s with
    | none => rw [ht] at hs; cases hs
    | some t => exact ⟨t ++ 10 :: u, by rw [hu]; rfl⟩
end Go.Fo
