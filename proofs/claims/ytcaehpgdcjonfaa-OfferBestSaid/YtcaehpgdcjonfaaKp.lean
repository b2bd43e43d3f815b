/- All the operations that write or make memory together. -/
import Derived.Test.YtcaehpgdcjonfaaKo
namespace Go.Fo

theorem append_ok {P : Program} {X : Nat → Prop} {ρ : Nat → Hd} {m : Mem} {L : Nat → Option MObj} {w : World} (h : Hp X ρ m L w) {tys : Array TypeId} {ty T : TypeId} (hT : ATy P tys T) {i : TI} (ht : TOK P T i) {k : Kd} (hk : i.ek = some k) (hb : 1 ≤ i.eb)
    {key d : Nat} {xs : List k.T} (hkey : L key = some (.rows k xs)) (hfr : ∀ k o, L k = some o → k ≠ d → o.has d = false) {v : Value} {ys : List k.T} {cs : List Value} (hsrc : Src P m k w ys v cs)
    (hbound : ((xs.length : Int) + (ys.length : Int)) * (i.eb : Int) ≤ 70368744177664) :
    HRes P X ρ m L w d (do pure (.value (← Builtin.append_ tys ty #[(ρ key).hdr, v]))) (.sl d) [(d, some (.rows k (xs ++ ys))), (key, none)] true := by
  obtain ⟨g0, g1, g2⟩ := h.obj _ _ hkey
  have hel1 : ∀ v ∈ cs, ocell v = true := by
    intro u hu
    obtain ⟨q, hq, rfl⟩ := List.getElem_of_mem hu
    have hpos : 0 < k.n := by
      rcases Nat.eq_zero_or_pos k.n with e | e
      · have := hsrc.len; rw [e, Nat.mul_zero] at this; omega
      · exact e
    have hqn : q / k.n < ys.length := by rw [Nat.div_lt_iff_lt_mul hpos]; rw [← hsrc.len]; exact hq
    have hR := hsrc.el (q / k.n) hqn
    refine R_ocell k _ _ hR _ ?_
    have hdm := Nat.div_add_mod q k.n
    have hmod := Nat.mod_lt q hpos
    have e : (cs.drop (q / k.n * k.n)).take k.n = (cs.drop (q / k.n * k.n)).take k.n := rfl
    rw [List.mem_take_iff_getElem]
    refine ⟨q % k.n, ?_, ?_⟩
    · rw [List.length_drop, Nat.lt_min]; rw [Nat.mul_comm] at hdm; exact ⟨hmod, by omega⟩
    · rw [List.getElem_drop]; congr 1; rw [Nat.mul_comm]; exact hdm
  -- the old key goes
  have hL : ∀ (U : List (Nat × Option MObj)) k' o, updO ([(d, some (.rows k (xs ++ ys))), (key, none)]) L k' = some o → updO [(d, some (.rows k (xs ++ ys)))] L k' = some o := by
    intro U k' o ho
    simp only [updO] at ho ⊢
    split
    · rename_i e; rw [if_pos e] at ho; exact ho
    · rename_i e; rw [if_neg e] at ho
      split at ho
      · cases ho
      · exact ho
  have drop : ∀ s mv, HRes P X ρ m L w d s mv [(d, some (.rows k (xs ++ ys)))] true → HRes P X ρ m L w d s mv [(d, some (.rows k (xs ++ ys))), (key, none)] true := by
    rintro s mv ⟨nx, w', ρ', h1, h2, h3, h4⟩
    exact ⟨nx, w', ρ', h1, h2, h3.weak (fun k' o ho => hL [] k' o ho), h4⟩
  -- what stands in the old row
  have grow : ∀ (base : Option Addr) (sCap : Nat) (os : List Value), (ρ key).hdr = .slice base xs.length sCap → sCap < xs.length + ys.length → os.length = xs.length * k.n → (∀ (q : Nat) (hq : q < xs.length), k.R m xs[q] ((os.drop (q * k.n)).take k.n)) →
      (∀ n, (Builtin.firstCells k.n xs.length (.slice base xs.length sCap)).run P { w with drawn := n } = .ok os.toArray { w with drawn := n }) →
      HRes P X ρ m L w d (do pure (.value (← Builtin.append_ tys ty #[(ρ key).hdr, v]))) (.sl d) [(d, some (.rows k (xs ++ ys))), (key, none)] true := by
    intro base sCap os hh hgt hol hoe hor
    rw [hh]
    have hbn : (xs.length + ys.length) * i.eb ≤ 70368744177664 := by
      have : (((xs.length + ys.length) * i.eb : Nat) : Int) ≤ 70368744177664 := by push_cast; exact hbound
      omega
    obtain ⟨w', cap, rest, r1, r2, r3, r4⟩ := append_grows (ty := ty) hT ht hk hb hsrc hgt hbn hor
    refine drop _ _ (new_rows_ok h hfr r2 (k := k) (xs := xs ++ ys) (cap := cap) (by simpa using r3) ?_ (fun q hq => ?_) _ ?_)
    · simp only [List.length_append, hol, hsrc.len, r4]
      rw [← Nat.add_assoc, ← Nat.add_mul, ← Nat.add_mul]; congr 1; omega
    · have hdiv : ∀ a b : Nat, a < b → a * k.n + k.n ≤ b * k.n := fun a b hab => by
        have : (a + 1) * k.n ≤ b * k.n := Nat.mul_le_mul_right _ hab
        rw [Nat.add_mul, Nat.one_mul] at this; exact this
      rcases Nat.lt_or_ge q xs.length with hlt | hge
      · rw [List.getElem_append_left hlt]
        have := hdiv q xs.length hlt
        rw [List.drop_append_of_le_length (by omega), List.take_append_of_le_length (by rw [List.length_drop]; omega)]
        exact hoe q hlt
      · rw [List.getElem_append_right hge]
        have hq' : q - xs.length < ys.length := by simp at hq; omega
        have h1 := hdiv (q - xs.length) ys.length hq'
        have h2 : q * k.n = xs.length * k.n + (q - xs.length) * k.n := by rw [← Nat.add_mul]; congr 1; omega
        rw [List.drop_append, List.drop_of_length_le (by rw [hol, h2]; omega), List.nil_append, hol, show q * k.n - xs.length * k.n = (q - xs.length) * k.n by omega]
        rw [List.drop_append_of_le_length (by rw [hsrc.len]; omega), List.take_append_of_le_length (by rw [List.length_drop, hsrc.len]; omega)]
        exact hsrc.el _ hq'
    · rw [run_bind', r1]; simp only [List.length_append]; rfl
  rcases g2 with ⟨hn, rfl⟩ | ⟨hn, hcap, vs, T', hbk, hvl, hel⟩
  · -- a nil one
    have hh : (ρ key).hdr = .slice none 0 0 := by unfold Hd.hdr; rw [hn]; rfl
    rcases Nat.eq_zero_or_pos ys.length with e | e
    · have hys : ys = [] := List.eq_nil_of_length_eq_zero e
      subst hys
      have hcs : cs = [] := List.eq_nil_of_length_eq_zero (by simpa using hsrc.len)
      have hrun : (Builtin.append_ tys ty #[(ρ key).hdr, v]).run P w = .ok (.slice none 0 0) w := by
        rw [hh]; exact append_fits (ty := ty) hT ht hk (base := none) (sLen := 0) (sCap := 0) hsrc (by simp) rfl
      refine ⟨_, w, setρ ρ d ⟨0, 0, 0, true, k.n⟩, by rw [run_bind', hrun]; rfl, .inl ⟨_, rfl, by simp only [Cv, setρ_eq]; rfl⟩, ?_, Nx.refl X m w, fun k' hk' => setρ_ne _ _ _ hk', fun e => by cases e⟩
      refine Hp.weak ?_ (fun k' o ho => hL [] k' o ho)
      rw [updO_one]
      refine h.turn d _ (fun _ => False) (fun k' hk' => setρ_ne _ _ _ hk') (.inr fun k' o hk' hne => hfr k' o hk' hne) (fun b _ _ => rfl) (Nat.le_refl _) (fun b _ hf => hf.elim) (fun _ _ _ _ _ _ hf => hf) (fun o ho => ?_)
      simp only [Option.some.injEq] at ho; subst ho
      refine ⟨⟨by rw [setρ_eq]; rfl, by rw [setρ_eq], .inl ⟨by rw [setρ_eq], rfl⟩⟩, fun b hf => ?_⟩
      have := hf.1; rw [setρ_eq] at this; cases this
    · exact grow none 0 [] hh (by simp; exact e) (by simp) (fun q hq => by simp at hq) (fun _ => rfl)
  · have hh : (ρ key).hdr = .slice (some ⟨(ρ key).blk, 0, none⟩) xs.length (ρ key).cap := by unfold Hd.hdr; rw [hn, g0]; rfl
    have hxl : xs.length * k.n ≤ vs.length := by rw [hvl]; exact Nat.mul_le_mul_right _ hcap
    rcases Nat.lt_or_ge (ρ key).cap (xs.length + ys.length) with hgt | hle
    · have hs := src_cells (P := P) (m := m) (k := k) (w := w) (ys := xs) (b := (ρ key).blk) (off := 0) (cap := (ρ key).cap) hbk (by omega) (by simpa using hel)
      refine grow _ _ ((vs.drop 0).take (xs.length * k.n)) hh hgt hs.len hs.el hs.read
    · -- it fits
      have hneed : (xs.length + ys.length) * k.n ≤ vs.length := by rw [hvl]; exact Nat.mul_le_mul_right _ hle
      rw [Nat.add_mul] at hneed
      obtain ⟨w', s1, s2⟩ := run_storeCells (P := P) (b := (ρ key).blk) (off := xs.length * k.n) (T := T') cs 0 w vs hbk (by rw [hsrc.len]; omega) hel1
      have hrun : (Builtin.append_ tys ty #[(ρ key).hdr, v]).run P w = .ok (.slice (some ⟨(ρ key).blk, 0, none⟩) (xs.length + ys.length) (ρ key).cap) w' := by
        rw [hh]
        refine append_fits (ty := ty) hT ht hk hsrc hle ?_
        simp only
        rw [add_mul_at, Nat.zero_add]; exact s1
      refine ⟨_, w', setρ ρ d ⟨(ρ key).blk, xs.length + ys.length, (ρ key).cap, false, k.n⟩, by rw [run_bind', hrun]; rfl, .inl ⟨_, rfl, by simp only [Cv, setρ_eq]; rfl⟩, ?_, s2.nx (h.djX key _ _ hkey ⟨hn, rfl⟩), fun k' hk' => setρ_ne _ _ _ hk', fun e => by cases e⟩
      -- without the old key
      have h' : Hp X ρ m (fun q => if q = key then none else L q) w := h.weak (fun q o ho => by
        split at ho
        · cases ho
        · exact ho)
      have h3 := h'.turn (ρ' := setρ ρ d ⟨(ρ key).blk, xs.length + ys.length, (ρ key).cap, false, k.n⟩) (w' := w') d (some (.rows k (xs ++ ys))) (fun b => b = (ρ key).blk) (fun k' hk' => setρ_ne _ _ _ hk') (.inr fun k' o hk' hne => by
          split at hk'
          · cases hk'
          · exact hfr k' o hk' hne) (fun b _ hb => s2.un b hb) (Nat.le_of_eq s2.size.symm) (fun b _ hb => hb ▸ h.djm key _ _ hkey ⟨hn, rfl⟩) (fun k' o b _ hk' hf hb => by
          split at hk'
          · cases hk'
          · rename_i hne
            exact hne (h.dj k' o key _ b hk' hkey hf ⟨hn, hb⟩)) (fun o ho => by
          simp only [Option.some.injEq] at ho; subst ho
          refine ⟨⟨by rw [setρ_eq]; simp, by rw [setρ_eq], .inr ⟨by rw [setρ_eq], by rw [setρ_eq]; simpa using hle, _, T', by rw [setρ_eq]; exact s2.at_, ?_, ?_⟩⟩, fun b hf => ?_⟩
          · have e1 := hneed
            have e2 := hxl
            rw [hvl] at e1 e2
            rw [setρ_eq]; simp only [List.length_append, List.length_take, List.length_drop, hsrc.len, hvl]; omega
          · intro q hq
            have hlt0 : (vs.take (xs.length * k.n + 0)).length = xs.length * k.n := by rw [List.length_take]; omega
            have hdiv : ∀ a b : Nat, a < b → a * k.n + k.n ≤ b * k.n := fun a b hab => by
              have : (a + 1) * k.n ≤ b * k.n := Nat.mul_le_mul_right _ hab
              rw [Nat.add_mul, Nat.one_mul] at this; exact this
            rcases Nat.lt_or_ge q xs.length with hlt | hge
            · rw [List.getElem_append_left hlt]
              have := hdiv q xs.length hlt
              rw [List.drop_append_of_le_length (by omega), List.take_append_of_le_length (by rw [List.length_drop]; omega), List.drop_take, List.take_take, Nat.min_eq_left (by omega)]
              exact hel q hlt
            · rw [List.getElem_append_right hge]
              have hq' : q - xs.length < ys.length := by simp at hq; omega
              have h1 := hdiv (q - xs.length) ys.length hq'
              have h2 : q * k.n = xs.length * k.n + (q - xs.length) * k.n := by rw [← Nat.add_mul]; congr 1; omega
              rw [List.drop_append, List.drop_of_length_le (by rw [hlt0, h2]; omega), List.nil_append, hlt0, show q * k.n - xs.length * k.n = (q - xs.length) * k.n by omega]
              rw [List.drop_append_of_le_length (by rw [hsrc.len]; omega), List.take_append_of_le_length (by rw [List.length_drop, hsrc.len]; omega)]
              exact hsrc.el _ hq'
          · have hb : b = (ρ key).blk := by have := hf.2; rw [setρ_eq] at this; exact this
            subst hb
            refine ⟨h.djm key _ _ hkey ⟨hn, rfl⟩, h.djX key _ _ hkey ⟨hn, rfl⟩, fun k' o' _ hk' hf' => ?_⟩
            split at hk'
            · cases hk'
            · rename_i hne
              exact hne (h.dj k' o' key _ _ hk' hkey hf' ⟨hn, rfl⟩))
      refine h3.weak (fun k' o ho => ?_)
      simp only [updO] at ho
      split at ho
      · rename_i e; rw [if_pos e]; exact ho
      · rename_i e; rw [if_neg e]
        split at ho
        · cases ho
        · rename_i e2
          rw [if_neg (by intro e3; exact e2 (by rw [e3]; exact beq_self_eq_true key))]; exact ho

/-- an append to nil -/
theorem append_nil_ok {P : Program} {X : Nat → Prop} {ρ : Nat → Hd} {m : Mem} {L : Nat → Option MObj} {w : World} (h : Hp X ρ m L w) {tys : Array TypeId} {ty T : TypeId} (hT : ATy P tys T) {i : TI} (ht : TOK P T i) {k : Kd} (hk : i.ek = some k) (hb : 1 ≤ i.eb)
    {d : Nat} (hfr : ∀ k o, L k = some o → k ≠ d → o.has d = false) {v : Value} {ys : List k.T} {cs : List Value} (hsrc : Src P m k w ys v cs) (hbound : (ys.length : Int) * (i.eb : Int) ≤ 70368744177664) :
    HRes P X ρ m L w d (do pure (.value (← Builtin.append_ tys ty #[.slice none 0 0, v]))) (.sl d) [(d, some (.rows k ys))] true := by
  have h1 : Hp X (setρ ρ d ⟨0, 0, 0, true, k.n⟩) m (fun q => if d == q then some (.rows k ([] : List k.T)) else L q) w := by
    refine h.turn d _ (fun _ => False) (fun k' hk' => setρ_ne _ _ _ hk') (.inr fun k' o hk' hne => hfr k' o hk' hne) (fun b _ _ => rfl) (Nat.le_refl _) (fun b _ hf => hf.elim) (fun _ _ _ _ _ _ hf => hf) (fun o ho => ?_)
    simp only [Option.some.injEq] at ho; subst ho
    refine ⟨⟨by rw [setρ_eq]; rfl, by rw [setρ_eq], .inl ⟨by rw [setρ_eq], rfl⟩⟩, fun b hf => ?_⟩
    have := hf.1; rw [setρ_eq] at this; cases this
  have h2 := append_ok (P := P) (ty := ty) h1 hT ht hk hb (key := d) (d := d) (xs := []) (by simp) (fun k' o hk' hne => by
    rw [if_neg (by intro e; exact hne (by have := (beq_iff_eq (a := d) (b := k')).1 e; exact this.symm))] at hk'
    exact hfr k' o hk' hne) hsrc (by simpa using hbound)
  rw [setρ_eq] at h2
  obtain ⟨nx, w', ρ', r1, r2, r3, r4, r5, r6⟩ := h2
  refine ⟨nx, w', ρ', r1, r2, r3.weak (fun q o ho => ?_), r4, fun q hq => (r5 q hq).trans (setρ_ne _ _ _ hq), fun e => by cases e⟩
  simp only [updO] at ho ⊢
  split at ho
  · rename_i e; rw [if_pos e]; simpa using ho
  · rename_i e; rw [if_neg e, if_neg e, if_neg e]; exact ho

end Go.Fo
