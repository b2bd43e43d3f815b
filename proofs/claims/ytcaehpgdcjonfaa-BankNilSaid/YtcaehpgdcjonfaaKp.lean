/- All the operations that write or make memory together. -/
import Derived.Test.YtcaehpgdcjonfaaKo
namespace Go.Fo

theorem append_ok {P : Program} {X : Nat → Prop} {ρ : Nat → Hd} {m : Mem} {L : Nat → Option MObj} {w : World} (h : Hp X ρ m L w) {tys : Array TypeId} {ty T : TypeId} (hT : ATy P tys T) {i : TI} (ht : TOK P T i) {k : Kd} (hk : i.ek = some k) (hb : 1 ≤ i.eb)
    {key d : Nat} {xs : List k.T} (hkey : L key = some (.rows k xs)) (hfr : ∀ k o, L k = some o → k ≠ d → o.has d = false) {v : Value} {ys : List k.T} {cs : List Value} (hsrc : Src P m k w ys v cs)
    (hbound : ((xs.length : Int) + (ys.length : Int)) * (i.eb : Int) ≤ 70368744177664) :
    HRes P X ρ m L w d (do pure (.value (← Builtin.append_ tys ty #[(ρ key).hdr, v]))) (.sl d) [(d, some (.rows k (xs ++ ys))), (key, none)] true := by
  obtain ⟨g0, g1, g2⟩ := h.obj _ _ hkey
  have hel1 : ∀ v ∈ cs, ocell v = true := by
    intro u hu
    obtain ⟨q, hq, rfl⟩ := List.getElem_of_mem hu
    have hpos : 0 < k.n := by
      rcases Nat.eq_zero_or_pos k.n with e | e
      · have := hsrc.len; rw [e, Nat.mul_zero] at this; omega
      · exact e
    have hqn : q / k.n < ys.length := by rw [Nat.div_lt_iff_lt_mul hpos]; rw [← hsrc.len]; exact hq
    have hR := hsrc.el (q / k.n) hqn
    refine R_ocell k _ _ hR _ ?_
    have hdm := Nat.div_add_mod q k.n
    have hmod := Nat.mod_lt q hpos
    have e : (cs.drop (q / k.n * k.n)).take k.n = (cs.drop (q / k.n * k.n)).take k.n := rfl
    rw [List.mem_take_iff_getElem]
    refine ⟨q % k.n, ?_, ?_⟩
    · rw [List.length_drop, Nat.lt_min]; rw [Nat.mul_comm] at hdm; exact ⟨hmod, by omega⟩
    · rw [List.getElem_drop]; congr 1; rw [Nat.mul_comm]; exact hdm
  -- the old key goes
  have hL : ∀ (U : List (Nat × Option MObj)) k' o, updO ([(d, some (.rows k (xs ++ ys))), (key, none)]) L k' = some o → updO [(d, some (.rows k (xs ++ ys)))] L k' = some o := by
    intro U k' o ho
    simp only [updO] at ho ⊢
    split
    · rename_i e; rw [if_pos e] at ho; exact ho
    · rename_i e; rw [if_neg e] at ho
      split at ho
      · cases ho
      · exact ho
  have drop : ∀ s mv, HRes P X ρ m L w d s mv [(d, some (.rows k (xs ++ ys)))] true → HRes P X ρ m L w d s mv [(d, some (.rows k (xs ++ ys))), (key, none)] true := by
    rintro s mv ⟨nx, w', ρ', h1, h2, h3, h4⟩
    exact ⟨nx, w', ρ', h1, h2, h3.weak (fun k' o ho => hL [] k' o ho), h4⟩
  -- what stands in the old row
  have grow : ∀ (base : Option Addr) (sCap : Nat) (os : List Value), (ρ key).hdr = .slice base xs.length sCap → sCap < xs.length + ys.length → os.length = xs.length * k.n → (∀ (q : Nat) (hq : q < xs.length), k.R m xs[q] ((os.drop (q * k.n)).take k.n)) →
      (∀ n, (Builtin.firstCells k.n xs.length (.slice base xs.length sCap)).run P { w with drawn := n } = .ok os.toArray { w with drawn := n }) →
      HRes P X ρ m L w d (do pure (.value (← Builtin.append_ tys ty #[(ρ key).hdr, v]))) (.sl d) [(d, some (.rows k (xs ++ ys))), (key, none)] true := by
    intro base sCap os hh hgt hol hoe hor
    rw [hh]
    have hbn : (xs.length + ys.length) * i.eb ≤ 70368744177664 := by
      have : (((xs.length + ys.length) * i.eb : Nat) : Int) ≤ 70368744177664 := by push_cast; exact hbound
      omega
    obtain ⟨w', cap, rest, r1, r2, r3, r4⟩ := append_grows (ty := ty) hT ht hk hb hsrc hgt hbn hor
    refine drop _ _ (new_rows_ok h hfr r2 (k := k) (xs := xs ++ ys) (cap := cap) (by simpa using r3) ?_ (fun q hq => ?_) _ ?_)
    · simp only [List.length_append, hol, hsrc.len, r4]
      rw [← Nat.add_assoc, ← Nat.add_mul, ← Nat.add_mul]; congr 1; omega
    · have hdiv : ∀ a b : Nat, a < b → a * k.n + k.n ≤ b * k.n := fun a b hab => by
        have : (a + 1) * k.n ≤ b * k.n := Nat.mul_le_mul_right _ hab
        rw [Nat.add_mul, Nat.one_mul] at this; exact this
      rcases Nat.lt_or_ge q xs.length with hlt | hge
      · rw [List.getElem_append_left hlt]
        have := hdiv q xs.length hlt
        rw [List.drop_append_of_le_length (by omega), List.take_append_of_le_length (by rw [List.length_drop]; omega)]
        exact hoe q hlt
      · rw [List.getElem_append_right hge]
        have hq' : q - xs.length < ys.length := by simp at hq; omega
        have h1 := hdiv (q - xs.length) ys.length hq'
        have h2 : q * k.n = xs.length * k.n + (q - xs.length) * k.n := by rw [← Nat.add_mul]; congr 1; omega
        rw [List.drop_append, List.drop_of_length_le (by rw [hol, h2]; omega), List.nil_append, hol, show q * k.n - xs.length * k.n = (q - xs.length) * k.n by omega]
        rw [List.drop_append_of_le_length (by rw [hsrc.len]; omega), List.take_append_of_le_length (by rw [List.length_drop, hsrc.len]; omega)]
        exact hsrc.el _ hq'
    · rw [run_bind', r1]; simp only [List.length_append]; rfl
  rcases g2 with ⟨hn, rfl⟩ | ⟨hn, hcap, vs, T', hbk, hvl, hel⟩
  · -- a nil one
    have hh : (ρ key).hdr = .slice none 0 0 := by unfold Hd.hdr; rw [hn]; rfl
    rcases Nat.eq_zero_or_pos ys.length with e | e
    · have hys : ys = [] := List.eq_nil_of_length_eq_zero e
      subst hys
      have hcs : cs = [] := List.eq_nil_of_length_eq_zero (by simpa using hsrc.len)
      have hrun : (Builtin.append_ tys ty #[(ρ key).hdr, v]).run P w = .ok (.slice none 0 0) w := by
        rw [hh]; exact append_fits (ty := ty) hT ht hk (base := none) (sLen := 0) (sCap := 0) hsrc (by simp) rfl
      refine ⟨_, w, setρ ρ d ⟨0, 0, 0, true, k.n⟩, by rw [run_bind', hrun]; rfl, .inl ⟨_, rfl, by simp only [Cv, setρ_eq]; rfl⟩, ?_, Nx.refl X m w, fun k' hk' => setρ_ne _ _ _ hk', fun e => by cases e⟩
      refine Hp.weak ?_ (fun k' o ho => hL [] k' o ho)
      rw [updO_one]
      refine h.turn d _ (fun _ => False) (fun k' hk' => setρ_ne _ _ _ hk') (.inr fun k' o hk' hne => hfr k' o hk' hne) (fun b _ _ => rfl) (Nat.le_refl _) (fun b _ hf => hf.elim) (fun _ _ _ _ _ _ hf => hf) (fun o ho => ?_)
      simp only [Option.some.injEq] at ho; subst ho
      refine ⟨⟨by rw [setρ_eq]; rfl, by rw [setρ_eq], .inl ⟨by rw [setρ_eq], rfl⟩⟩, fun b hf => ?_⟩
      have := hf.1; rw [setρ_eq] at this; cases this
    · exact grow none 0 [] hh (by simp; exact e) (by simp) (fun q hq => by simp at hq) (fun _ => rfl)
  · have hh : (ρ key).hdr = .slice (some ⟨(ρ key).blk, 0, none⟩) xs.length (ρ key).cap := by unfold Hd.hdr; rw [hn, g0]; rfl
    have hxl : xs.length * k.n ≤ vs.length := by rw [hvl]; exact Nat.mul_le_mul_right _ hcap
    rcases Nat.lt_or_ge (ρ key).cap (xs.length + ys.length) with hgt | hle
    · have hs := src_cells (P := P) (m := m) (k := k) (w := w) (ys := xs) (b := (ρ key).blk) (off := 0) (cap := (ρ key).cap) hbk (by omega) (by simpa using hel)
      refine grow _ _ ((vs.drop 0).take (xs.length * k.n)) hh hgt hs.len hs.el hs.read
    · -- it fits
      have hneed : (xs.length + ys.length) * k.n ≤ vs.length := by rw [hvl]; exact Nat.mul_le_mul_right _ hle
      rw [Nat.add_mul] at hneed
      obtain ⟨w', s1, s2⟩ := run_storeCells (P := P) (b := (ρ key).blk) (off := xs.length * k.n) (T := T') cs 0 w vs hbk (by rw [hsrc.len]; omega) hel1
      have hrun : (Builtin.append_ tys ty #[(ρ key).hdr, v]).run P w = .ok (.slice (some ⟨(ρ key).blk, 0, none⟩) (xs.length + ys.length) (ρ key).cap) w' := by
        rw [hh]
        refine append_fits (ty := ty) hT ht hk hsrc hle ?_
        simp only
        rw [add_mul_at, Nat.zero_add]; exact s1
      refine ⟨_, w', setρ ρ d ⟨(ρ key).blk, xs.length + ys.length, (ρ key).cap, false, k.n⟩, by rw [run_bind', hrun]; rfl, .inl ⟨_, rfl, by simp only [Cv, setρ_eq]; rfl⟩, ?_, s2.nx (h.djX key _ _ hkey ⟨hn, rfl⟩), fun k' hk' => setρ_ne _ _ _ hk', fun e => by cases e⟩
      -- without the old key
      have h' : Hp X ρ m (fun q => if q = key then none else L q) w := h.weak (fun q o ho => by
        split at ho
        · cases ho
        · exact ho)
      have h3 := h'.turn (ρ' := setρ ρ d ⟨(ρ key).blk, xs.length + ys.length, (ρ key).cap, false, k.n⟩) (w' := w') d (some (.rows k (xs ++ ys))) (fun b => b = (ρ key).blk) (fun k' hk' => setρ_ne _ _ _ hk') (.inr fun k' o hk' hne => by
          split at hk'
          · cases hk'
          · exact hfr k' o hk' hne) (fun b _ hb => s2.un b hb) (Nat.le_of_eq s2.size.symm) (fun b _ hb => hb ▸ h.djm key _ _ hkey ⟨hn, rfl⟩) (fun k' o b _ hk' hf hb => by
          split at hk'
          · cases hk'
          · rename_i hne
            exact hne (h.dj k' o key _ b hk' hkey hf ⟨hn, hb⟩)) (fun o ho => by
          simp only [Option.some.injEq] at ho; subst ho
          refine ⟨⟨by rw [setρ_eq]; simp, by rw [setρ_eq], .inr ⟨by rw [setρ_eq], by rw [setρ_eq]; simpa using hle, _, T', by rw [setρ_eq]; exact s2.at_, ?_, ?_⟩⟩, fun b hf => ?_⟩
          · have e1 := hneed
            have e2 := hxl
            rw [hvl] at e1 e2
            rw [setρ_eq]; simp only [List.length_append, List.length_take, List.length_drop, hsrc.len, hvl]; omega
          · intro q hq
            have hlt0 : (vs.take (xs.length * k.n + 0)).length = xs.length * k.n := by rw [List.length_take]; omega
            have hdiv : ∀ a b : Nat, a < b → a * k.n + k.n ≤ b * k.n := fun a b hab => by
              have : (a + 1) * k.n ≤ b * k.n := Nat.mul_le_mul_right _ hab
              rw [Nat.add_mul, Nat.one_mul] at this; exact this
            rcases Nat.lt_or_ge q xs.length with hlt | hge
            · rw [List.getElem_append_left hlt]
              have := hdiv q xs.length hlt
              rw [List.drop_append_of_le_length (by omega), List.take_append_of_le_length (by rw [List.length_drop]; omega), List.drop_take, List.take_take, Nat.min_eq_left (by omega)]
              exact hel q hlt
            · rw [List.getElem_append_right hge]
              have hq' : q - xs.length < ys.length := by simp at hq; omega
              have h1 := hdiv (q - xs.length) ys.length hq'
              have h2 : q * k.n = xs.length * k.n + (q - xs.length) * k.n := by rw [← Nat.add_mul]; congr 1; omega
              rw [List.drop_append, List.drop_of_length_le (by rw [hlt0, h2]; omega), List.nil_append, hlt0, show q * k.n - xs.length * k.n = (q - xs.length) * k.n by omega]
              rw [List.drop_append_of_le_length (by rw [hsrc.len]; omega), List.take_append_of_le_length (by rw [List.length_drop, hsrc.len]; omega)]
              exact hsrc.el _ hq'
          · have hb : b = (ρ key).blk := by have := hf.2; rw [setρ_eq] at this; exact this
            subst hb
            refine ⟨h.djm key _ _ hkey ⟨hn, rfl⟩, h.djX key _ _ hkey ⟨hn, rfl⟩, fun k' o' _ hk' hf' => ?_⟩
            split at hk'
            · cases hk'
            · rename_i hne
              exact hne (h.dj k' o' key _ _ hk' hkey hf' ⟨hn, rfl⟩))
      refine h3.weak (fun k' o ho => ?_)
      simp only [updO] at ho
      split at ho
      · rename_i e; rw [if_pos e]; exact ho
      · rename_i e; rw [if_neg e]
        split at ho
        · cases ho
        · rename_i e2
          rw [if_neg (by intro e3; exact e2 (by rw [e3]; exact beq_self_eq_true key))]; exact ho

/-- an append to nil -/
theorem append_nil_ok {P : Program} {X : Nat → Prop} {ρ : Nat → Hd} {m : Mem} {L : Nat → Option MObj} {w : World} (h : Hp X ρ m L w) {tys : Array TypeId} {ty T : TypeId} (hT : ATy P tys T) {i : TI} (ht : TOK P T i) {k : Kd} (hk : i.ek = some k) (hb : 1 ≤ i.eb)
    {d : Nat} (hfr : ∀ k o, L k = some o → k ≠ d → o.has d = false) {v : Value} {ys : List k.T} {cs : List Value} (hsrc : Src P m k w ys v cs) (hbound : (ys.length : Int) * (i.eb : Int) ≤ 70368744177664) :
    HRes P X ρ m L w d (do pure (.value (← Builtin.append_ tys ty #[.slice none 0 0, v]))) (.sl d) [(d, some (.rows k ys))] true := by
  have h1 : Hp X (setρ ρ d ⟨0, 0, 0, true, k.n⟩) m (fun q => if d == q then some (.rows k ([] : List k.T)) else L q) w := by
    refine h.turn d _ (fun _ => False) (fun k' hk' => setρ_ne _ _ _ hk') (.inr fun k' o hk' hne => hfr k' o hk' hne) (fun b _ _ => rfl) (Nat.le_refl _) (fun b _ hf => hf.elim) (fun _ _ _ _ _ _ hf => hf) (fun o ho => ?_)
    simp only [Option.some.injEq] at ho; subst ho
    refine ⟨⟨by rw [setρ_eq]; rfl, by rw [setρ_eq], .inl ⟨by rw [setρ_eq], rfl⟩⟩, fun b hf => ?_⟩
    have := hf.1; rw [setρ_eq] at this; cases this
  have h2 := append_ok (P := P) (ty := ty) h1 hT ht hk hb (key := d) (d := d) (xs := []) (by simp) (fun k' o hk' hne => by
    rw [if_neg (by intro e; exact hne (by have := (beq_iff_eq (a := d) (b := k')).1 e; exact this.symm))] at hk'
    exact hfr k' o hk' hne) hsrc (by simpa using hbound)
  rw [setρ_eq] at h2
  obtain ⟨nx, w', ρ', r1, r2, r3, r4, r5, r6⟩ := h2
  refine ⟨nx, w', ρ', r1, r2, r3.weak (fun q o ho => ?_), r4, fun q hq => (r5 q hq).trans (setρ_ne _ _ _ hq), fun e => by cases e⟩
  simp only [updO] at ho ⊢
  split at ho
  · rename_i e; rw [if_pos e]; simpa using ho
  · rename_i e; rw [if_neg e, if_neg e, if_neg e]; exact ho

/-- cells that tell a list -/
def RL (m : Mem) (k : Kd) (xs : List k.T) (vs : List Value) : Prop := ∀ (i : Nat) (h : i < xs.length), k.R m xs[i] ((vs.drop (i * k.n)).take k.n)
theorem RL.app {m : Mem} {k : Kd} {xs ys : List k.T} {a b : List Value} (h : RL m k xs a) (hl : a.length = xs.length * k.n) (h' : RL m k ys b) : RL m k (xs ++ ys) (a ++ b) := by
  intro i hi
  rcases Nat.lt_or_ge i xs.length with hlt | hge
  · have hle : (i + 1) * k.n ≤ xs.length * k.n := Nat.mul_le_mul_right _ hlt
    rw [Nat.add_mul, Nat.one_mul] at hle
    rw [List.getElem_append_left hlt, List.drop_append_of_le_length (by omega), List.take_append_of_le_length (by simp; omega)]
    exact h i hlt
  · have hi' : i - xs.length < ys.length := by rw [List.length_append] at hi; omega
    have hle : xs.length * k.n ≤ i * k.n := Nat.mul_le_mul_right _ hge
    have e : (i - xs.length) * k.n = i * k.n - xs.length * k.n := Nat.sub_mul _ _ _
    rw [List.getElem_append_right hge, List.drop_append, List.drop_of_length_le (by omega), List.nil_append, hl, ← e]
    exact h' _ hi'
theorem RL.take {m : Mem} {k : Kd} {xs : List k.T} {a : List Value} (h : RL m k xs a) (n : Nat) : RL m k (xs.take n) (a.take (n * k.n)) := by
  intro i hi
  have hi' : i < n ∧ i < xs.length := by rw [List.length_take] at hi; omega
  have hle : (i + 1) * k.n ≤ n * k.n := Nat.mul_le_mul_right _ hi'.1
  rw [Nat.add_mul, Nat.one_mul] at hle
  rw [List.getElem_take, List.drop_take, List.take_take, Nat.min_eq_left (by omega)]
  exact h i hi'.2
theorem RL.drop {m : Mem} {k : Kd} {xs : List k.T} {a : List Value} (h : RL m k xs a) (n : Nat) : RL m k (xs.drop n) (a.drop (n * k.n)) := by
  intro i hi
  rw [List.length_drop] at hi
  rw [List.getElem_drop, List.drop_drop, ← Nat.add_mul]
  exact h (n + i) (by omega)
theorem RL.mono {m m' : Mem} (hm : Mle m m') {k : Kd} {xs : List k.T} {a : List Value} (h : RL m k xs a) : RL m' k xs a := fun i hi => Kd.R.mono hm k _ _ (h i hi)

theorem RL_ocell {m : Mem} {k : Kd} {xs : List k.T} {cs : List Value} (hr : RL m k xs cs) (hl : cs.length = xs.length * k.n) : ∀ u ∈ cs, ocell u = true := by
  intro u hu
  obtain ⟨q, hq, rfl⟩ := List.getElem_of_mem hu
  have hpos : 0 < k.n := by
    rcases Nat.eq_zero_or_pos k.n with e | e
    · rw [e, Nat.mul_zero] at hl; omega
    · exact e
  have hqn : q / k.n < xs.length := by rw [Nat.div_lt_iff_lt_mul hpos]; rw [← hl]; exact hq
  have hR := hr (q / k.n) hqn
  refine R_ocell k _ _ hR _ ?_
  have hdm := Nat.div_add_mod q k.n
  have hmod := Nat.mod_lt q hpos
  rw [List.mem_take_iff_getElem]
  refine ⟨q % k.n, ?_, ?_⟩
  · rw [List.length_drop, Nat.lt_min]; rw [Nat.mul_comm] at hdm; exact ⟨hmod, by omega⟩
  · rw [List.getElem_drop]; congr 1; rw [Nat.mul_comm]; exact hdm

theorem src_take {P : Program} {m : Mem} {k : Kd} {w : World} {ys : List k.T} {b off : Nat} {vs : List Value} {T : TypeId} {fr : Nat × Nat} (h : w.heap[b]? = some (.cells vs.toArray T fr)) (hl : off + ys.length * k.n ≤ vs.length)
    (he : ∀ (i : Nat) (h : i < ys.length), k.R m ys[i] ((vs.drop (off + i * k.n)).take k.n)) (q : Nat) (hq : q ≤ ys.length) (c d : Nat) :
    ∃ cs : List Value, (Builtin.firstCells k.n q (.slice (some ⟨b, off, none⟩) c d)).run P w = .ok cs.toArray w ∧ cs.length = q * k.n ∧ RL m k (ys.take q) cs := by
  have hle : q * k.n ≤ ys.length * k.n := Nat.mul_le_mul_right _ hq
  have hlen : (ys.take q).length = q := by rw [List.length_take]; omega
  have := src_cells (P := P) (m := m) (k := k) (w := w) (ys := ys.take q) (b := b) (off := off) (cap := d) (vs := vs) (T := T) (fr := fr) h (by rw [hlen]; omega) (fun i hi => by
    rw [hlen] at hi
    rw [List.getElem_take]; exact he i (by omega))
  rw [hlen] at this
  exact ⟨_, by have := this.read w.drawn; rw [hlen] at this; exact this, by have := this.len; rw [hlen] at this; exact this, this.el⟩

/-- so many first ones of a source -/
theorem srcT_ok {P : Program} {L : List (Nat × Option MObj)} {k : Kd} {x : MV} {ys : List k.T} (h : srcM L k x = some ys) {ρ : Nat → Hd} {m : Mem} {w : World} (hO : ∀ k o, getO L k = some o → osat ρ m w k o) (hM : ∀ b o, m b = some o → w.heap[b]? = some o)
    {v : Value} (hv : Cv ρ m x v) (q : Nat) (hq : q ≤ ys.length) :
    (∃ a c, v = .slice a ys.length c) ∧ ∃ cs : List Value, (Builtin.firstCells k.n q v).run P w = .ok cs.toArray w ∧ cs.length = q * k.n ∧ RL m k (ys.take q) cs := by
  have nilsrc : ∀ (a : Option Addr), ys = [] → (∃ a' c, (Value.slice a 0 0) = .slice a' ys.length c) ∧ ∃ cs : List Value, (Builtin.firstCells k.n q (.slice a 0 0)).run P w = .ok cs.toArray w ∧ cs.length = q * k.n ∧ RL m k (ys.take q) cs := by
    intro a e; subst e
    have hq0 : q = 0 := by simpa using hq
    subst hq0
    refine ⟨⟨_, _, rfl⟩, [], ?_, by simp, fun i hi => by simp at hi⟩
    cases a with
    | none => rfl
    | some a =>
      show (loadCells a (0 * k.n)).run P _ = _
      rw [Nat.zero_mul]; rfl
  unfold srcM at h
  split at h
  · simp only [Option.some.injEq] at h
    simp only [Cv] at hv; subst hv
    exact nilsrc _ h.symm
  · rename_i e l
    split at h
    · rename_i he
      subst he
      simp only [Option.some.injEq] at h; subst h
      obtain ⟨u, hu, hs⟩ := hv
      simp only [List.cons.injEq, and_true] at hu; subst hu
      rcases hs with ⟨_, rfl, rfl⟩ | ⟨b, off, cap, cells, T, fr, rfl, g2, g3, g4, g5⟩
      · exact nilsrc _ rfl
      · exact ⟨⟨_, _, rfl⟩, src_take (vs := cells.toList) (by rw [Array.toArray_toList]; exact hM _ _ g3) (by simpa using g4) g5 q hq _ _⟩
    · cases h
  · rename_i key
    split at h
    · rename_i e l hk
      split at h
      · rename_i he
        subst he
        simp only [Option.some.injEq] at h; subst h
        obtain ⟨g0, g1, g2⟩ := hO _ _ hk
        simp only [Cv] at hv; subst hv
        unfold Hd.hdr
        rcases g2 with ⟨hn, rfl⟩ | ⟨hn, hcap, vs, T, hb, hvl, hel⟩
        · rw [hn]; exact nilsrc _ rfl
        · have hle : l.length * e.n ≤ (ρ key).cap * e.n := Nat.mul_le_mul_right _ hcap
          rw [hn, g0]; exact ⟨⟨_, _, rfl⟩, src_take (off := 0) hb (by omega) (by simpa using hel) q hq _ _⟩
      · cases h
    · cases h
  · cases h

theorem copy_ok {P : Program} {X : Nat → Prop} {ρ : Nat → Hd} {m : Mem} {L : Nat → Option MObj} {w : World} (h : Hp X ρ m L w) {tys : Array TypeId} {ty T : TypeId} (h0 : tys[0]? = some T) {i : TI} (ht : TOK P T i) {k : Kd} (hk : i.ek = some k)
    {key lo : Nat} {s : MV} (hs : dstM s = some (key, lo)) {xs : List k.T} (hkey : L key = some (.rows k xs)) (hlo' : dcond s xs.length) {dv : Value} (hdv : Cv ρ m s dv) {v : Value} {ys : List k.T}
    (hsrc : ∀ q, q ≤ ys.length → (∃ a c, v = .slice a ys.length c) ∧ ∃ cs : List Value, (Builtin.firstCells k.n q v).run P w = .ok cs.toArray w ∧ cs.length = q * k.n ∧ RL m k (ys.take q) cs) (d : Nat) :
    HRes P X ρ m L w d (do pure (.value (← Builtin.copy_ tys ty #[dv, v]))) (.int .i64 ((min ys.length (xs.length - lo) : Nat) : Int)) [(key, some (.rows k (cpy lo xs ys)))] false := by
  obtain ⟨hslc, hkn, je, z, hje, hjb, hz, hzr⟩ := ht.ek k hk
  obtain ⟨hund, hsz⟩ := ht.slc hslc
  obtain ⟨j', hj', hjs⟩ := sizeb_ok hsz
  rw [hje] at hj'; cases hj'
  obtain ⟨g0, g1, g2⟩ := h.obj _ _ hkey
  have hlo : lo ≤ xs.length := by
    unfold dstM at hs
    split at hs
    · simp only [Option.some.injEq, Prod.mk.injEq] at hs; obtain ⟨rfl, rfl⟩ := hs; exact Nat.zero_le _
    · simp only [Option.some.injEq, Prod.mk.injEq] at hs; obtain ⟨rfl, rfl⟩ := hs; exact Nat.le_of_lt hlo'
    · cases hs
  have hq : min ys.length (xs.length - lo) ≤ ys.length := Nat.min_le_left _ _
  obtain ⟨⟨a, c, rfl⟩, cs, hrd, hcl, hcr⟩ := hsrc _ hq
  -- the header that is written through
  have hshape : ∃ base cp, dv = .slice base (xs.length - lo) cp ∧ (((ρ key).nil = true ∧ base = none ∧ xs = [] ∧ lo = 0) ∨ ((ρ key).nil = false ∧ base = some ⟨(ρ key).blk, lo * k.n, none⟩)) := by
    unfold dstM at hs
    split at hs
    · simp only [Option.some.injEq, Prod.mk.injEq] at hs; obtain ⟨rfl, rfl⟩ := hs
      simp only [Cv] at hdv; subst hdv
      unfold Hd.hdr
      rcases g2 with ⟨hn, rfl⟩ | ⟨hn, _⟩
      · rw [hn]; exact ⟨_, _, rfl, .inl ⟨rfl, rfl, rfl, rfl⟩⟩
      · rw [hn, g0]; exact ⟨_, _, rfl, .inr ⟨rfl, by rw [Nat.zero_mul]⟩⟩
    · simp only [Option.some.injEq, Prod.mk.injEq] at hs; obtain ⟨rfl, rfl⟩ := hs
      simp only [Cv] at hdv; subst hdv
      rcases g2 with ⟨hn, rfl⟩ | ⟨hn, _⟩
      · exact absurd hlo' (by simp [dcond])
      · rw [g0, g1]; exact ⟨_, _, rfl, .inr ⟨hn, rfl⟩⟩
    · cases hs
  obtain ⟨base, cp, rfl, hb⟩ := hshape
  have hmin : Nat.min ys.length (xs.length - lo) = min ys.length (xs.length - lo) := rfl
  have pre : ∀ (w' : World) (st : (match base with | some a => storeCells a cs | none => pure () : Sem Unit).run P w = .ok () w'), (Builtin.copy_ tys ty #[.slice base (xs.length - lo) cp, .slice a ys.length c]).run P w = .ok (goInt ((min ys.length (xs.length - lo) : Nat) : Int)) w' := by
    intro w' st
    unfold Builtin.copy_
    simp only [h0, List.getElem?_toArray, List.getElem?_cons_zero, List.getElem?_cons_succ]
    rw [run_bind', run_underlying hund]; simp only
    rw [run_bind', show (Builtin.lenOf (.slice a ys.length c)).run P w = .ok ys.length w from rfl]; simp only
    rw [run_bind', run_sizeOf hje, hjs]; simp only
    rw [hmin, ← hkn, run_bind', hrd]; simp only
    cases base with
    | none =>
      simp only at st ⊢
      rw [run_pure] at st; cases st; rfl
    | some a =>
      simp only at st ⊢
      rw [run_bind', st]; rfl
  rcases hb with ⟨hn, rfl, rfl, rfl⟩ | ⟨hn, rfl⟩
  · have e0 : min ys.length (([] : List k.T).length - 0) = 0 := by simp
    refine ⟨.value (goInt ((min ys.length (([] : List k.T).length - 0) : Nat) : Int)), w, ρ, ?_, .inl ⟨_, rfl, rfl⟩, ?_, Nx.refl _ _ _, fun _ _ => rfl, fun _ => rfl⟩
    · rw [run_bind', pre w rfl]; rfl
    · rw [updO_one]
      have hc0 : cpy 0 ([] : List k.T) ys = [] := by simp [cpy]
      have : (fun q => if key == q then some (MObj.rows k (cpy 0 ([] : List k.T) ys)) else L q) = L := by
        funext q
        split
        · rename_i e; rw [hc0]; rw [← beq_iff_eq.1 e]; exact hkey.symm
        · rfl
      rw [this]; exact h
  · rcases g2 with ⟨hn', _⟩ | ⟨_, hcap, vs, T', hbk, hvl, hel⟩
    · rw [hn] at hn'; cases hn'
    have hle : xs.length * k.n ≤ (ρ key).cap * k.n := Nat.mul_le_mul_right _ hcap
    have hsum : lo + min ys.length (xs.length - lo) ≤ xs.length := by omega
    have hsm : lo * k.n + min ys.length (xs.length - lo) * k.n ≤ xs.length * k.n := by rw [← Nat.add_mul]; exact Nat.mul_le_mul_right _ hsum
    have hoc : ∀ u ∈ cs, ocell u = true := RL_ocell hcr (by rw [hcl, List.length_take, Nat.min_eq_left hq])
    obtain ⟨w', s1, s2⟩ := run_storeCells (P := P) (b := (ρ key).blk) (off := lo * k.n) (T := T') cs 0 w vs hbk (by rw [hcl]; omega) hoc
    refine ⟨.value (goInt ((min ys.length (xs.length - lo) : Nat) : Int)), w', ρ, ?_, .inl ⟨_, rfl, rfl⟩, ?_, ?_, fun _ _ => rfl, fun _ => rfl⟩
    · rw [run_bind', pre w' s1]; rfl
    · rw [updO_one]
      refine h.turn key _ (fun b => b = (ρ key).blk) (fun _ _ => rfl) (.inl rfl) (fun b _ hb => s2.un b hb) (Nat.le_of_eq s2.size.symm) (fun b _ hb => hb ▸ h.djm key _ _ hkey ⟨hn, rfl⟩) (fun k' o b hne hk' hf hb => ?_) (fun o ho' => ?_)
      · exact hne (h.dj k' o key _ b hk' hkey hf ⟨hn, hb⟩)
      · simp only [Option.some.injEq] at ho'; subst ho'
        have hcl2 : (cpy lo xs ys).length = xs.length := by simp [cpy]; omega
        have hcpy : cpy lo xs ys = xs.take lo ++ (ys.take (min ys.length (xs.length - lo)) ++ xs.drop (lo + min ys.length (xs.length - lo))) := by
          unfold cpy
          rcases Nat.le_total ys.length (xs.length - lo) with e | e
          · rw [Nat.min_eq_left e, List.take_of_length_le e, List.take_of_length_le (Nat.le_refl _)]
          · rw [Nat.min_eq_right e, List.drop_of_length_le (by omega), List.drop_of_length_le (by omega)]
        refine ⟨⟨by rw [hcl2]; exact g0, g1, .inr ⟨hn, by rw [hcl2]; exact hcap, _, T', s2.at_, ?_, ?_⟩⟩, fun b hf => ⟨h.djm key _ _ hkey hf, h.djX key _ _ hkey hf, fun k' o' hne hk' hf' => hne (h.dj k' o' key _ b hk' hkey hf' hf)⟩⟩
        · simp [hcl]; omega
        · rw [hcpy, Nat.add_zero, hcl, ← Nat.add_mul]
          have el : RL m k xs vs := hel
          have e1 : (vs.take (lo * k.n)).length = (xs.take lo).length * k.n := by rw [List.length_take, List.length_take, Nat.min_eq_left (by omega), Nat.min_eq_left hlo]
          have e2 : cs.length = (ys.take (min ys.length (xs.length - lo))).length * k.n := by rw [hcl, List.length_take, Nat.min_eq_left hq]
          exact RL.app (el.take lo) e1 (RL.app hcr e2 (el.drop _))
    · exact s2.nx (h.djX key _ _ hkey ⟨hn, rfl⟩)

theorem clear_ok {P : Program} {X : Nat → Prop} {ρ : Nat → Hd} {m : Mem} {L : Nat → Option MObj} {w : World} (h : Hp X ρ m L w) {tys : Array TypeId} {ty T : TypeId} (h0 : tys[0]? = some T) {i : TI} (ht : TOK P T i) {k : Kd} (hk : i.ek = some k) (h1 : 1 ≤ i.esz)
    {key : Nat} {xs : List k.T} (hkey : L key = some (.rows k xs)) (d : Nat) :
    HRes P X ρ m L w d (do pure (.value (← Builtin.clear_ tys ty #[(ρ key).hdr]))) (.tup []) [(key, some (.rows k (List.replicate xs.length k.df)))] false := by
  obtain ⟨hslc, hkn, je, z, hje, hjb, hz, hzr⟩ := ht.ek k hk
  obtain ⟨hund, hsz⟩ := ht.slc hslc
  obtain ⟨j', hj', hjs⟩ := sizeb_ok hsz
  rw [hje] at hj'; cases hj'
  have hzl : z.cells.size = i.esz := by
    have := Kd.R.len _ _ _ (hzr m); rw [← hkn, ← this]; simp
  obtain ⟨g0, g1, g2⟩ := h.obj _ _ hkey
  have tupv : Cv ρ m (.tup []) (.tuple #[]) := ⟨[], rfl, rfl⟩
  have none_ : xs = [] → (Builtin.clear_ tys ty #[(ρ key).hdr]).run P w = .ok (.tuple #[]) w → HRes P X ρ m L w d (do pure (.value (← Builtin.clear_ tys ty #[(ρ key).hdr]))) (.tup []) [(key, some (.rows k (List.replicate xs.length k.df)))] false := by
    intro e hrun
    refine ⟨.value (.tuple #[]), w, ρ, by rw [run_bind', hrun]; rfl, .inl ⟨_, rfl, tupv⟩, ?_, Nx.refl _ _ _, fun _ _ => rfl, fun _ => rfl⟩
    rw [updO_one]
    have : (fun q => if key == q then some (MObj.rows k (List.replicate xs.length k.df)) else L q) = L := by
      funext q
      split
      · rename_i e'; rw [← beq_iff_eq.1 e', hkey, e]; rfl
      · rfl
    rw [this]; exact h
  rcases g2 with ⟨hn, rfl⟩ | ⟨hn, hcap, vs, T', hbk, hvl, hel⟩
  · refine none_ rfl ?_
    unfold Builtin.clear_ Hd.hdr
    rw [hn]
    simp only [h0, List.getElem?_toArray, List.getElem?_cons_zero]
    rw [run_bind', run_underlying hund]; rfl
  · have hdr : (ρ key).hdr = .slice (some ⟨(ρ key).blk, 0, none⟩) xs.length (ρ key).cap := by unfold Hd.hdr; rw [hn, g0]; rfl
    rcases Nat.eq_zero_or_pos xs.length with hx | hx
    · refine none_ (List.length_eq_zero_iff.1 hx) ?_
      rw [hdr, hx]
      unfold Builtin.clear_
      simp only [h0, List.getElem?_toArray, List.getElem?_cons_zero]
      rw [run_bind', run_underlying hund]; rfl
    · have hle : xs.length * k.n ≤ (ρ key).cap * k.n := Nat.mul_le_mul_right _ hcap
      have hcells : (Builtin.zeroCells z.cells xs.length).toList = (List.replicate xs.length z.cells.toList).flatten := range_zero z.cells (by omega) xs.length
      have hcl : ((List.replicate xs.length z.cells.toList).flatten).length = xs.length * k.n := by rw [List.length_flatten]; simp [hzl, hkn]
      have hcr : RL m k (List.replicate xs.length k.df) (List.replicate xs.length z.cells.toList).flatten := fun q hq => by
        simp only [List.length_replicate] at hq
        rw [List.getElem_replicate]; exact rows_repl (hzr m) xs.length q hq
      have hoc := RL_ocell hcr (by rw [hcl, List.length_replicate])
      obtain ⟨w', s1, s2⟩ := run_storeCells (P := P) (b := (ρ key).blk) (off := 0) (T := T') _ 0 w vs hbk (by rw [hcl]; omega) hoc
      have hrun : (Builtin.clear_ tys ty #[(ρ key).hdr]).run P w = .ok (.tuple #[]) w' := by
        rw [hdr]
        obtain ⟨q, hq⟩ : ∃ q, xs.length = q + 1 := ⟨xs.length - 1, by omega⟩
        rw [hq] at hcells s1 ⊢
        unfold Builtin.clear_
        simp only [h0, List.getElem?_toArray, List.getElem?_cons_zero]
        rw [run_bind', run_underlying hund]; simp only
        rw [run_bind', run_zeroValue hje hz]; simp only
        rw [hcells, run_bind', s1]; rfl
      refine ⟨.value (.tuple #[]), w', ρ, by rw [run_bind', hrun]; rfl, .inl ⟨_, rfl, tupv⟩, ?_, ?_, fun _ _ => rfl, fun _ => rfl⟩
      · rw [updO_one]
        refine h.turn key _ (fun b => b = (ρ key).blk) (fun _ _ => rfl) (.inl rfl) (fun b _ hb => s2.un b hb) (Nat.le_of_eq s2.size.symm) (fun b _ hb => hb ▸ h.djm key _ _ hkey ⟨hn, rfl⟩) (fun k' o b hne hk' hf hb => ?_) (fun o ho' => ?_)
        · exact hne (h.dj k' o key _ b hk' hkey hf ⟨hn, hb⟩)
        · simp only [Option.some.injEq] at ho'; subst ho'
          refine ⟨⟨by rw [List.length_replicate]; exact g0, g1, .inr ⟨hn, by rw [List.length_replicate]; exact hcap, _, T', s2.at_, ?_, ?_⟩⟩, fun b hf => ⟨h.djm key _ _ hkey hf, h.djX key _ _ hkey hf, fun k' o' hne hk' hf' => hne (h.dj k' o' key _ b hk' hkey hf' hf)⟩⟩
          · rw [Nat.add_zero, List.take_zero, List.nil_append, List.length_append, List.length_drop, hcl, Nat.zero_add]; omega
          · rw [Nat.add_zero, List.take_zero, List.nil_append]
            intro q hq
            have hq' : q < xs.length := by simpa using hq
            have hqn : (q + 1) * k.n ≤ xs.length * k.n := Nat.mul_le_mul_right _ hq'
            rw [Nat.add_mul, Nat.one_mul] at hqn
            rw [List.drop_append_of_le_length (by rw [hcl]; omega), List.take_append_of_le_length (by rw [List.length_drop, hcl]; omega)]
            exact hcr q hq
      · exact s2.nx (h.djX key _ _ hkey ⟨hn, rfl⟩)

theorem store_foc_ok {P : Program} {X : Nat → Prop} {ρ : Nat → Hd} {m : Mem} {L : Nat → Option MObj} {w : World} (h : Hp X ρ m L w) {T : Nat} {i : TI} (ht : TOK P T i) {key j : Nat} {pre cs post : List MV} (hk : L key = some (.foc pre cs post)) {x : MV} {v : Value}
    (hv : Cv ρ m x v) (hn : (mvcells x).length = i.size) (hs : solid x = true) (hc : (mvcells x).all cellm = true) (ho : j + i.size ≤ cs.length) (d : Nat) :
    HRes P X ρ m L w d (do Instr.storeAt T (.pointer (some ⟨(ρ key).blk, pre.length + j, none⟩)) v; pure .skip) .nilp [(key, some (.foc pre (cs.take j ++ (mvcells x ++ cs.drop (j + i.size))) post))] false := by
  obtain ⟨hnil, v1, v2, v3, T', hb, l1, hl, l3⟩ := h.obj _ _ hk
  have hcv := cells_ok hs hv
  have hlen := CvL.length hcv
  have hvl := CvL.length hl
  have hv1 := CvL.length l1
  obtain ⟨w', h1, h2⟩ := run_storeAt (P := P) (off := pre.length + j) ht hb (v := v) (by rw [← Array.length_toList, hlen, hn]) (by simp; omega) (cellms_ok hc hcv)
  refine ⟨.skip, w', ρ, ?_, .inr ⟨rfl, rfl⟩, ?_, ?_, fun _ _ => rfl, fun _ => rfl⟩
  · rw [run_bind', h1]; rfl
  · rw [updO_one]
    refine h.turn key _ (fun b => b = (ρ key).blk) (fun _ _ => rfl) (.inl rfl) (fun b _ hb => h2.un b hb) (Nat.le_of_eq h2.size.symm) (fun b _ hb => hb ▸ h.djm key _ _ hk ⟨hnil, rfl⟩) (fun k o b hne hk' hf hb => ?_) (fun o ho' => ?_)
    · exact hne (h.dj k o key _ b hk' hk hf ⟨hnil, hb⟩)
    · simp only [Option.some.injEq] at ho'; subst ho'
      refine ⟨⟨hnil, v1, v2.take j ++ (v.cells.toList ++ v2.drop (j + i.size)), v3, T', ?_, l1, CvL.append (CvL.take j hl) (CvL.append hcv (CvL.drop _ hl)), l3⟩, fun b hf => ⟨h.djm key _ _ hk hf, h.djX key _ _ hk hf, fun k o' hne hk' hf' => hne (h.dj k o' key _ b hk' hk hf' hf)⟩⟩
      rw [h2.at_]
      have e1 : (v1 ++ (v2 ++ v3)).take (pre.length + j) = v1 ++ v2.take j := by
        rw [← hv1, List.take_append, List.take_of_length_le (by omega), show v1.length + j - v1.length = j by omega, List.take_append_of_le_length (by omega)]
      have e2 : (v1 ++ (v2 ++ v3)).drop (pre.length + j + i.size) = v2.drop (j + i.size) ++ v3 := by
        rw [← hv1, Nat.add_assoc, List.drop_append, List.drop_of_length_le (by omega), List.nil_append, show v1.length + (j + i.size) - v1.length = j + i.size by omega, List.drop_append_of_le_length (by omega)]
      rw [e1, e2]; simp
  · exact h2.nx (h.djX key _ _ hk ⟨hnil, rfl⟩)

end Go.Fo
