/- Lines: the program's steps are the document's, and the law. -/
import Derived.Test.YtphienllhdoenaaDoorSc3Sq
import Derived.KernelRfl
namespace Go.Fo
set_option maxRecDepth 6000
def okA (B : Nat) (st : List Step) : Prop := ∀ y ∈ st, y.2.2.1.length ≤ B ∧ y.2.2.2.2.2.length ≤ B
theorem okA_app {B B' : Nat} {a b : List Step} (ha : okA B a) (hb : okS B' b) (h : B' ≤ B) : okA B (a ++ b) := by
  intro y hy
  rcases List.mem_append.1 hy with hy | hy
  · exact ha y hy
  · have := hb.2 y hy; omega
theorem beqs_emp (l : List UInt8) : beqs (ofl l) ⟨#[]⟩ = decide (l = []) := by
  rw [beqs_bl, bl_ofl]
  cases l with
  | nil => rfl
  | cons x l => rw [decide_eq_false (by simp)]; rfl
/-- the two loops end alike -/
def End (B : Nat) (n : Nat) (last : List UInt8) (p r : (List Step) ⊕ ((Int × Int) ⊕ List Step)) : Prop :=
  (∃ out, p = .inl out ∧ r = .inl out ∧ last = [] ∧ okA B out ∧ out.length ≤ 4096) ∨ ∃ k, p = .inr (.inl (k, 310)) ∧ (r = .inr (.inl (k, 310)) ∨ ∃ out, r = .inl out ∧ last ≠ [] ∧ k = (n : Int))
theorem parse_loop (K S : Nat) (hS : S ≤ 66000) (hK : S + 4200 ≤ K) (ls : List ByteArray) (last : List UInt8) (hlast : ls.getLast? = some (ofl last)) (hls : ls.length ≤ 100000) : ∀ (ps : List (List UInt8)) (rem : ByteArray) (i e : Nat) (out : List Step),
    cutL 10 (bl rem) = ps → ls.drop i = ps.map ofl → rem.size ≤ S → out.length ≤ 4096 → okA (S + 4100) out →
    ∃ p r, score_Parse.l0 K (ps.length + e + 1) rem ((i : Int) + 1) out = some p ∧ psalteryref34_Parse.l0 K ls (ps.length + e + 1) (i : Int) out = some r ∧ End (S + 4100) ls.length last p r
  | [], rem, i, e, out, h1, _, _, _, _ => absurd h1 (cutL_ne 10 _)
  | [p], rem, i, e, out, h1, h2, h3, h4, h5 => by
    have hlen : ls.length = i + 1 := by
      have h6 := drop_len h2
      have : (ls.drop i).length = 1 := by rw [h2]; rfl
      rw [List.length_drop] at this; omega
    have hlp : ls.getLast? = some (ofl p) := by
      have : (ls.drop i).getLast? = some (ofl p) := by rw [h2]; rfl
      rw [List.getLast?_drop, if_neg (by omega)] at this; exact this
    have hpl : last = p := by
      rw [hlast] at hlp
      have := Option.some.inj hlp
      rw [← bl_ofl last, this, bl_ofl]
    subst hpl
    have hc := cutL_len 10 (bl rem)
    rw [h1] at hc
    have hno : (10 : UInt8) ∉ bl rem := by
      intro hm
      have := List.count_pos_iff.2 hm
      simp only [List.length_cons, List.length_nil] at hc; omega
    have hrem : bl rem = last := by
      rw [cutL_all 10 _ hno] at h1
      exact (List.cons.inj h1).1
    have hro : rem = ofl last := by rw [← hrem, ofl_bl]
    have R : psalteryref34_Parse.l0 K ls ([last].length + e + 1) (i : Int) out = some (.inl out) := by
      show psalteryref34_Parse.r0 K ls (psalteryref34_Parse.l0 K ls ([last].length + e)) (i : Int) out = _
      unfold psalteryref34_Parse.r0
      dsimp only
      rw [kw_i64 (by omega) (by omega)]
      exact bif_eq_f (decide_eq_false (by omega)) rfl
    have P0 : ∀ r, score_Parse.r0 K (score_Parse.l0 K ([last].length + e)) rem ((i : Int) + 1) out = r → score_Parse.l0 K ([last].length + e + 1) rem ((i : Int) + 1) out = r := fun r h => h
    by_cases hl : last = []
    · refine ⟨.inl out, .inl out, P0 _ ?_, R, .inl ⟨out, rfl, rfl, hl, h5, h4⟩⟩
      refine bif_eq_f ?_ rfl
      rw [hro, beqs_emp, decide_eq_true hl]; rfl
    · obtain ⟨r, q, l1, l2, l3⟩ := line_w K rem (by omega) (by omega)
      refine ⟨.inr (.inl (((i : Int) + 1), 310)), .inl out, P0 _ ?_, R, .inr ⟨_, rfl, .inr ⟨out, rfl, hl, by omega⟩⟩⟩
      refine bif_eq_t ?_ ?_
      · rw [hro, beqs_emp, decide_eq_false hl]; rfl
      · refine bnd_eq (x := .inr (.inl (((i : Int) + 1), 310))) ?_ rfl
        refine bnd_eq (scut_no K rem 10 hno) ?_
        refine gd_eq (fun h => by simp at h) ?_
        refine bif_eq_f rfl ?_
        refine bnd_eq (split_w K rem 32 (by omega) (by omega)) ?_
        refine bnd_eq l2 ?_
        rcases q with w' | ⟨st, ws, bad⟩
        · refine gd_eq (by simp; omega) ?_
          exact bif_eq_t rfl rfl
        · have hst : st.length ≤ 64 := by
            rcases r with u | st'
            · exact l3.2
            · obtain ⟨rfl, _, _, h⟩ := l3; exact h.1
          refine gd_eq (by omega) ?_
          exact bif_eq_t rfl rfl
  | p :: q :: rest, rem, i, e, out, h1, h2, h3, h4, h5 => by
    have hi := drop_len h2
    have hlen : ls.length = i + (q :: rest).length + 1 := by
      have : (ls.drop i).length = (q :: rest).length + 1 := by rw [h2, List.length_map]; rfl
      rw [List.length_drop] at this; omega
    rcases first_or 10 (bl rem) with hno | ⟨p', r', hr, hp⟩
    · rw [cutL_all 10 _ hno] at h1; cases h1
    rw [hr, cutL_no 10 p' r' hp] at h1
    have h1t := (List.cons.inj h1).2
    have h1h := (List.cons.inj h1).1
    subst h1h
    have hsz : (ofl p').size + (ofl r').size + 1 = rem.size := by
      rw [← bl_len, ← bl_len, ← bl_len rem, bl_ofl, bl_ofl, hr, List.length_append, List.length_cons]; omega
    have e1 : Kd.str.nth ls (Int.toNat (i : Int)) = ofl p' := nth_drop (k := .str) h2
    have P0 : ∀ r, score_Parse.r0 K (score_Parse.l0 K ((q :: rest).length + 1 + e)) rem ((i : Int) + 1) out = r → score_Parse.l0 K ((p' :: q :: rest).length + e + 1) rem ((i : Int) + 1) out = r := fun r h => by
      rw [List.length_cons]; exact h
    have R0 : ∀ r, psalteryref34_Parse.r0 K ls (psalteryref34_Parse.l0 K ls ((q :: rest).length + 1 + e)) (i : Int) out = r → psalteryref34_Parse.l0 K ls ((p' :: q :: rest).length + e + 1) (i : Int) out = r := fun r h => by
      rw [List.length_cons]; exact h
    have ih := fun out' => parse_loop K S hS hK ls last hlast hls (q :: rest) (ofl r') (i + 1) e out' (by rw [bl_ofl]; exact h1t) (drop_tail h2) (by omega)
    have hne : beqs rem ⟨#[]⟩ = false := by
      rw [beqs_nil]; exact decide_eq_false (by omega)
    have hcut := scut_at K rem 10 hr hp (by omega)
    have e2 : kwrap .i64 ((ls.length : Int) - 1) = (ls.length : Int) - 1 := kw_i64 (by omega) (by omega)
    have hqr : 0 < (q :: rest).length := by simp
    cases hsk : (bif beqs (ofl p') ⟨#[]⟩ then true else (sbyte (ofl p') 0 == 35)) with
    | true =>
      obtain ⟨P, R, g1, g2, g3⟩ := ih out h4 h5
      refine ⟨P, R, P0 _ ?_, R0 _ ?_, g3⟩
      · refine bif_eq_t (by rw [hne]; rfl) ?_
        refine bnd_eq (x := .inl (ofl r', out)) ?_ ?_
        · refine bnd_eq hcut ?_
          refine gd_eq (fun h => by
            simp only [Bool.true_and, Bool.not_eq_true'] at h
            rw [beqs_nil] at h
            have := of_decide_eq_false h; omega) ?_
          exact bif_eq_t hsk rfl
        · dsimp only
          rw [kw_i64 (by omega) (by omega), show (q :: rest).length + 1 + e = (q :: rest).length + e + 1 by omega]
          exact g1
      · unfold psalteryref34_Parse.r0
        dsimp only
        rw [e1, e2]
        refine bif_eq_t (decide_eq_true (by omega)) ?_
        refine bnd_eq (x := .inl out) ?_ ?_
        · refine gd_eq ⟨by omega, by omega, fun _ => by omega, fun _ => by omega, fun h => ?_⟩ (bif_eq_t hsk rfl)
          simp only [Bool.not_eq_true'] at h
          rw [beqs_nil] at h
          have := of_decide_eq_false h; omega
        · dsimp only
          rw [kw_i64 (by omega) (by omega), show (q :: rest).length + 1 + e = (q :: rest).length + e + 1 by omega]
          exact g2
    | false =>
      have hgp : ((true && (!(beqs (ofl p') ⟨#[]⟩))) = true → 0 < ((ofl p').size : Int)) := fun h => by
        simp only [Bool.true_and, Bool.not_eq_true'] at h
        rw [beqs_nil] at h
        have := of_decide_eq_false h; omega
      have hgr : ((!(beqs (ofl p') ⟨#[]⟩)) = true → 0 < ((ofl p').size : Int)) := fun h => hgp (by rw [h]; rfl)
      obtain ⟨r, z, l1, l2, l3⟩ := line_w K (ofl p') (by omega) (by omega)
      have hsp := split_w K (ofl p') 32 (by omega) (by omega)
      have RB : r = .inl () → psalteryref34_Parse.r0 K ls (psalteryref34_Parse.l0 K ls ((q :: rest).length + 1 + e)) (i : Int) out = some (.inr (.inl ((i : Int) + 1, 310))) := by
        intro hr'
        rw [hr'] at l1
        unfold psalteryref34_Parse.r0
        dsimp only
        rw [e1, e2]
        refine bif_eq_t (decide_eq_true (by omega)) ?_
        refine bnd_eq (x := .inr (.inl ((i : Int) + 1, 310))) ?_ rfl
        refine gd_eq ⟨by omega, by omega, fun _ => by omega, fun _ => by omega, hgr⟩ (bif_eq_f hsk ?_)
        refine gd_eq ⟨by omega, by omega⟩ ?_
        refine bnd_eq l1 ?_
        refine gd_eq (by simp; omega) ?_
        rw [kw_i64 (by omega) (by omega)]
      have PB : ∀ (zz : (List ByteArray) ⊕ (List Step × List ByteArray × Bool)), z = zz → (∃ w', zz = .inl w') ∨ (∃ st ws bad, zz = .inr (st, ws, bad) ∧ (bad = true ∨ ws ≠ []) ∧ st.length ≤ 64) → score_Parse.r0 K (score_Parse.l0 K ((q :: rest).length + 1 + e)) rem ((i : Int) + 1) out = some (.inr (.inl ((i : Int) + 1, 310))) := by
        intro zz hz hc
        subst hz
        refine bif_eq_t (by rw [hne]; rfl) ?_
        refine bnd_eq (x := .inr (.inl ((i : Int) + 1, 310))) ?_ rfl
        refine bnd_eq hcut ?_
        refine gd_eq hgp ?_
        refine bif_eq_f hsk ?_
        refine bnd_eq hsp ?_
        refine bnd_eq l2 ?_
        rcases hc with ⟨w', rfl⟩ | ⟨st, ws, bad, rfl, hb, hst⟩
        · refine gd_eq (by simp; omega) ?_
          exact bif_eq_t rfl rfl
        · refine gd_eq (by omega) ?_
          refine bif_eq_t ?_ rfl
          rcases hb with rfl | hb
          · rfl
          · have : 0 < ws.length := List.length_pos_iff.2 hb
            rw [decide_eq_true (p := (ws.length : Int) > 0) (by omega)]
            cases bad <;> rfl
      rcases r with ⟨⟩ | st
      · refine ⟨_, _, P0 _ (PB z rfl ?_), R0 _ (RB rfl), .inr ⟨_, rfl, .inl rfl⟩⟩
        rcases z with w' | ⟨st, ws, bad⟩
        · exact .inl ⟨w', rfl⟩
        · exact .inr ⟨st, ws, bad, rfl, l3.1, l3.2⟩
      · rcases z with w' | ⟨st', ws, bad⟩
        · exact l3.elim
        · obtain ⟨rfl, rfl, rfl, hok⟩ := l3
          have hst := hok.1
          by_cases h4096 : (out ++ st').length > 4096
          · refine ⟨.inr (.inl ((i : Int) + 1, 310)), .inr (.inl ((i : Int) + 1, 310)), P0 _ ?_, R0 _ ?_, .inr ⟨_, rfl, .inl rfl⟩⟩
            · refine bif_eq_t (by rw [hne]; rfl) ?_
              refine bnd_eq (x := .inr (.inl ((i : Int) + 1, 310))) ?_ rfl
              refine bnd_eq hcut ?_
              refine gd_eq hgp ?_
              refine bif_eq_f hsk ?_
              refine bnd_eq hsp ?_
              refine bnd_eq l2 ?_
              refine gd_eq (by omega) ?_
              exact bif_eq_t (by rw [decide_eq_true (p := (((out ++ st').length : Nat) : Int) > 4096) (by omega)]; rfl) rfl
            · unfold psalteryref34_Parse.r0
              dsimp only
              rw [e1, e2]
              refine bif_eq_t (decide_eq_true (by omega)) ?_
              refine bnd_eq (x := .inr (.inl ((i : Int) + 1, 310))) ?_ rfl
              refine gd_eq ⟨by omega, by omega, fun _ => by omega, fun _ => by omega, hgr⟩ (bif_eq_f hsk ?_)
              refine gd_eq ⟨by omega, by omega⟩ ?_
              refine bnd_eq l1 ?_
              refine gd_eq (by omega) ?_
              refine bif_eq_t (decide_eq_true (by omega)) ?_
              rw [kw_i64 (by omega) (by omega)]
          · obtain ⟨P, R, g1, g2, g3⟩ := ih (out ++ st') (by omega) (okA_app h5 hok (by omega))
            refine ⟨P, R, P0 _ ?_, R0 _ ?_, g3⟩
            · refine bif_eq_t (by rw [hne]; rfl) ?_
              refine bnd_eq (x := .inl (ofl r', out ++ st')) ?_ ?_
              · refine bnd_eq hcut ?_
                refine gd_eq hgp ?_
                refine bif_eq_f hsk ?_
                refine bnd_eq hsp ?_
                refine bnd_eq l2 ?_
                refine gd_eq (by omega) ?_
                exact bif_eq_f (by rw [decide_eq_false (p := (((out ++ st').length : Nat) : Int) > 4096) (by omega)]; rfl) rfl
              · dsimp only
                rw [kw_i64 (by omega) (by omega), show (q :: rest).length + 1 + e = (q :: rest).length + e + 1 by omega]
                exact g1
            · unfold psalteryref34_Parse.r0
              dsimp only
              rw [e1, e2]
              refine bif_eq_t (decide_eq_true (by omega)) ?_
              refine bnd_eq (x := .inl (out ++ st')) ?_ ?_
              · refine gd_eq ⟨by omega, by omega, fun _ => by omega, fun _ => by omega, hgr⟩ (bif_eq_f hsk ?_)
                refine gd_eq ⟨by omega, by omega⟩ ?_
                refine bnd_eq l1 ?_
                refine gd_eq (by omega) ?_
                exact bif_eq_f (decide_eq_false (by omega)) rfl
              · dsimp only
                rw [kw_i64 (by omega) (by omega), show (q :: rest).length + 1 + e = (q :: rest).length + e + 1 by omega]
                exact g2
/-- all of a text -/
theorem parse_w (K : Nat) (s : ByteArray) (hs : s.size ≤ 65536) (hK : s.size + 4300 ≤ K) : ∃ r, score_Parse K s = some r ∧ psalteryref34_Parse K s = some r ∧ ∀ out, r = .inr out → okA (s.size + 4100) out ∧ out.length ≤ 4096 := by
  have hcl := cut_len 10 s
  have hc := rcut_w K s 10 (by omega) (by omega)
  obtain ⟨lp, hlp⟩ : ∃ lp, (cutL 10 (bl s)).getLast? = some lp := by
    cases h : (cutL 10 (bl s)).getLast? with
    | none => exact absurd (List.getLast?_eq_none_iff.1 h) (cutL_ne 10 _)
    | some lp => exact ⟨lp, rfl⟩
  have hll : ((cutL 10 (bl s)).map ofl).getLast? = some (ofl lp) := by rw [List.getLast?_map, hlp]; rfl
  have hpos : 0 < ((cutL 10 (bl s)).map ofl).length := by
    rw [List.length_map]; exact List.length_pos_iff.2 (cutL_ne 10 _)
  have hmap : ((cutL 10 (bl s)).map ofl).length = (cutL 10 (bl s)).length := List.length_map _
  obtain ⟨p, r, g1, g2, g3⟩ := parse_loop K s.size (by omega) (by omega) ((cutL 10 (bl s)).map ofl) lp hll (by omega) (cutL 10 (bl s)) s 0 (K - (cutL 10 (bl s)).length - 1) [] rfl rfl (Nat.le_refl _) (by simp) (fun y hy => by cases hy)
  rw [show (cutL 10 (bl s)).length + (K - (cutL 10 (bl s)).length - 1) + 1 = K by omega] at g1 g2
  have e2 : kwrap .i64 ((((cutL 10 (bl s)).map ofl).length : Int) - 1) = (((cutL 10 (bl s)).map ofl).length : Int) - 1 := kw_i64 (by omega) (by omega)
  have hnth : Kd.str.nth ((cutL 10 (bl s)).map ofl) (Int.toNat ((((cutL 10 (bl s)).map ofl).length : Int) - 1)) = ofl lp := by
    rw [List.getLast?_eq_getElem?] at hll
    unfold Kd.nth
    rw [show Int.toNat ((((cutL 10 (bl s)).map ofl).length : Int) - 1) = ((cutL 10 (bl s)).map ofl).length - 1 by omega, List.getD_eq_getElem?_getD, hll]; rfl
  have hb : decide ((s.size : Int) > 65536) = false := decide_eq_false (by omega)
  have RR : ∀ out v, r = .inl out → (bif (!(beqs (ofl lp) ⟨#[]⟩)) then some (.inl ((((cutL 10 (bl s)).map ofl).length : Int), 310)) else some (.inr out) : Option ((Int × Int) ⊕ List Step)) = v → psalteryref34_Parse K s = v := by
    intro out v hr hv
    subst hr
    refine bif_eq_f hb ?_
    refine bnd_eq hc ?_
    refine bnd_eq g2 ?_
    dsimp only
    rw [e2]
    refine gd_eq ⟨by omega, by omega⟩ ?_
    rw [hnth]
    exact hv
  rcases g3 with ⟨out, rfl, rfl, h1, h2, h3⟩ | ⟨k, rfl, rfl | ⟨out, rfl, h1, h2⟩⟩
  · refine ⟨.inr out, bif_eq_f hb (bnd_eq g1 rfl), RR out _ rfl ?_, fun o ho => by cases ho; exact ⟨h2, h3⟩⟩
    rw [beqs_emp, decide_eq_true h1]; rfl
  · exact ⟨.inl (k, 310), bif_eq_f hb (bnd_eq g1 rfl), bif_eq_f hb (bnd_eq hc (bnd_eq g2 rfl)), fun o ho => by cases ho⟩
  · refine ⟨.inl (k, 310), bif_eq_f hb (bnd_eq g1 rfl), RR out _ rfl ?_, fun o ho => by cases ho⟩
    rw [beqs_emp, decide_eq_false h1, h2]; rfl
theorem nth_tab {k : Kd} (l : List k.T) : tabOf (fun i => k.nth l i) l.length = l := (list_tab l k.df).symm
theorem to_w (K B : Nat) (l : List Step) (hl : l.length ≤ 4096) (hA : okA B l) (hB : B ≤ 100000) (hK : B + 4200 ≤ K) : psalterylaw34_to_2 K l = some l := by
  refine bnd_eq (x := l) ?_ rfl
  have hmem : ∀ k, k < l.length → (Kd.nth (.pair (.int .i64) (.pair (.int .i64) (.pair (.slice (.int .i16)) (.pair (.slice (.int .u8)) (.pair (.slice (.int .u8)) (.slice (.pair (.int .i64) (.pair (.int .i64) (.pair (.int .i64) (.int .u32)))))))))) l k) ∈ l := fun k hk => by
    have : (Kd.nth (.pair (.int .i64) (.pair (.int .i64) (.pair (.slice (.int .i16)) (.pair (.slice (.int .u8)) (.pair (.slice (.int .u8)) (.slice (.pair (.int .i64) (.pair (.int .i64) (.pair (.int .i64) (.int .u32)))))))))) l k) = l[k] := nth_drop (List.drop_eq_getElem_cons hk)
    rw [this]; exact List.getElem_mem hk
  have h := app_loop0 (r := psalterylaw34_to_2.r0 K l) (b := fun _ _ => none) l.length (fun i => Kd.nth (.pair (.int .i64) (.pair (.int .i64) (.pair (.slice (.int .i16)) (.pair (.slice (.int .u8)) (.pair (.slice (.int .u8)) (.slice (.pair (.int .i64) (.pair (.int .i64) (.pair (.int .i64) (.int .u32)))))))))) l i) (fun k => (k : Int)) (some l) (fun next k hk => ?_) (fun next => ?_) (K := K) (by omega)
  · exact h
  · refine bif_eq_t (decide_eq_true (show (k : Int) < (l.length : Int) by omega)) ?_
    refine gd_eq ⟨by omega, by omega⟩ ?_
    refine gd_eq ⟨by omega, by omega⟩ ?_
    refine gd_eq ⟨by omega, by omega⟩ ?_
    refine gd_eq ⟨by omega, by omega⟩ ?_
    refine gd_eq ⟨by omega, by omega⟩ ?_
    have hm := hA _ (hmem k hk)
    rw [Int.toNat_natCast]
    generalize hy : (Kd.nth (.pair (.int .i64) (.pair (.int .i64) (.pair (.slice (.int .i16)) (.pair (.slice (.int .u8)) (.pair (.slice (.int .u8)) (.slice (.pair (.int .i64) (.pair (.int .i64) (.pair (.int .i64) (.int .u32)))))))))) l k) = y at hm
    refine bnd_eq (x := y.2.2.2.2.2) ?_ ?_
    · refine app_loop0 y.2.2.2.2.2.length (fun i => Kd.nth (.pair (.int .i64) (.pair (.int .i64) (.pair (.int .i64) (.int .u32)))) y.2.2.2.2.2 i) (fun k => (k : Int)) _ (fun next j hj => ?_) (fun next => ?_) (by omega)
      · unfold psalterylaw34_to_2.r1
        dsimp only
        rw [Int.toNat_natCast, hy]
        refine gd_eq ⟨by omega, by omega⟩ ?_
        refine bif_eq_t (decide_eq_true (show (j : Int) < (y.2.2.2.2.2.length : Int) by omega)) ?_
        refine gd_eq ⟨by omega, by omega⟩ ?_
        refine gd_eq ⟨by omega, by omega⟩ ?_
        rw [Int.toNat_natCast]
        refine gd_eq (by rw [tabOf_len]; simp only [List.length_cons, List.length_nil]; omega) ?_
        rw [kw_i64 (by omega) (by omega), tabOf_succ]; rfl
      · unfold psalterylaw34_to_2.r1
        dsimp only
        rw [Int.toNat_natCast, hy]
        refine gd_eq ⟨by omega, by omega⟩ ?_
        refine bif_eq_f (decide_eq_false (show ¬ ((y.2.2.2.2.2.length : Nat) : Int) < (y.2.2.2.2.2.length : Int) by omega)) ?_
        rw [nth_tab]
    · refine gd_eq (by rw [tabOf_len]; simp only [List.length_cons, List.length_nil]; omega) ?_
      rw [kw_i64 (by omega) (by omega), tabOf_succ, hy]; rfl
  · refine bif_eq_f (decide_eq_false (show ¬ ((l.length : Nat) : Int) < (l.length : Int) by omega)) ?_
    rw [nth_tab]
theorem same_w (K B : Nat) (l : List Step) (hl : l.length ≤ 4096) (hA : okA B l) (hB : B ≤ 100000) (hK : B + 4200 ≤ K) : psalteryref34_Same_4 K l l = some true := by
  refine bif_eq_f (bne_self_eq_false _) ?_
  refine bnd_eq (x := .inl ()) ?_ rfl
  refine cnt_loop0 (r := psalteryref34_Same_4.r0 K l l) l.length _ (fun next k hk => ?_) (fun next => bif_eq_f (decide_eq_false (by omega)) rfl) (by omega)
  have hm : (Kd.nth (.pair (.int .i64) (.pair (.int .i64) (.pair (.slice (.int .i16)) (.pair (.slice (.int .u8)) (.pair (.slice (.int .u8)) (.slice (.pair (.int .i64) (.pair (.int .i64) (.pair (.int .i64) (.int .u32)))))))))) l k) ∈ l := by
    have : (Kd.nth (.pair (.int .i64) (.pair (.int .i64) (.pair (.slice (.int .i16)) (.pair (.slice (.int .u8)) (.pair (.slice (.int .u8)) (.slice (.pair (.int .i64) (.pair (.int .i64) (.pair (.int .i64) (.int .u32)))))))))) l k) = l[k] := nth_drop (List.drop_eq_getElem_cons hk)
    rw [this]; exact List.getElem_mem hk
  have hy := hA _ hm
  refine bif_eq_t (decide_eq_true (by omega)) ?_
  refine gd_eq ⟨by omega, by omega⟩ ?_
  refine gd_eq ⟨by omega, by omega⟩ ?_
  rw [Int.toNat_natCast]
  generalize (Kd.nth (.pair (.int .i64) (.pair (.int .i64) (.pair (.slice (.int .i16)) (.pair (.slice (.int .u8)) (.pair (.slice (.int .u8)) (.slice (.pair (.int .i64) (.pair (.int .i64) (.pair (.int .i64) (.int .u32)))))))))) l k) = y at hy ⊢
  have bs : ∀ x : ByteArray, beqs x x = true := fun x => by rw [beqs_bl]; exact beq_self_eq_true _
  refine bif_eq_f ?_ ?_
  · rw [bs, bs]
    simp only [bne_self_eq_false, Bool.not_true, Bool.cond_false]
  refine bnd_eq (x := .inl ()) ?_ ?_
  · refine cnt_loop0 y.2.2.1.length _ (fun next j hj => ?_) (fun next => bif_eq_f (decide_eq_false (by omega)) rfl) (by omega)
    refine bif_eq_t (decide_eq_true (by omega)) ?_
    refine gd_eq ⟨by omega, by omega⟩ ?_
    refine gd_eq ⟨by omega, by omega⟩ ?_
    refine bif_eq_f (bne_self_eq_false _) ?_
    rw [kw_i64 (by omega) (by omega)]; rfl
  refine bnd_eq (x := .inl ()) ?_ ?_
  · refine cnt_loop0 y.2.2.2.2.2.length _ (fun next j hj => ?_) (fun next => bif_eq_f (decide_eq_false (by omega)) rfl) (by omega)
    refine bif_eq_t (decide_eq_true (by omega)) ?_
    refine gd_eq ⟨by omega, by omega⟩ ?_
    refine gd_eq ⟨by omega, by omega⟩ ?_
    refine bif_eq_f (by simp only [beq_self_eq_true, Bool.and_self, Bool.not_true]) ?_
    rw [kw_i64 (by omega) (by omega)]; rfl
  · rw [kw_i64 (by omega) (by omega)]; rfl
end Go.Fo
