/- Slice literals and makes. -/
import Derived.Test.YtcaehpgdcjonfaaKl
namespace Go.Fo

def Kd.dfc : Kd → List Value
  | .int k => [.int k 0]
  | .bool => [.bool false]
  | .str => [.string ⟨#[]⟩]
  | .slice _ => [.slice none 0 0]
  | .pair a b => a.dfc ++ b.dfc
  | .unit => []
theorem dfc_ok (m : Mem) : ∀ k : Kd, k.R m k.df k.dfc
  | .int _ => rfl
  | .bool => rfl
  | .str => rfl
  | .slice _ => ⟨_, rfl, .inl ⟨_, rfl, rfl⟩⟩
  | .pair a b => ⟨_, _, rfl, dfc_ok m a, dfc_ok m b⟩
  | .unit => rfl

theorem range_zero (zero : Array Value) (_hz : 1 ≤ zero.size) : ∀ c : Nat, ((Array.range (c * zero.size)).map (fun i => zero[i % zero.size]!)).toList = (List.replicate c zero.toList).flatten := by
  intro c
  simp only [Array.toList_map, Array.toList_range]
  induction c with
  | zero => simp
  | succ c ih =>
    rw [Nat.add_mul, Nat.one_mul, List.range_add, List.map_append, ih, List.replicate_succ', List.flatten_append, List.flatten_singleton, List.map_map]
    congr 1
    apply List.ext_getElem
    · simp
    · intro i h1 h2
      simp only [List.length_map, List.length_range] at h1
      simp only [List.getElem_map, List.getElem_range, Function.comp_apply]
      rw [Nat.add_mod, Nat.mul_mod_left, Nat.zero_add, Nat.mod_mod, Nat.mod_eq_of_lt h1]
      simp [h1]

theorem rowsM_ok {ρ : Nat → Hd} {m : Mem} {k : Kd} : ∀ {ps : List (Nat × MV)} {n : Nat} {xs : List k.T}, rowsM k n ps = some xs → ∀ {vs : List (Nat × Value)}, vs.length = ps.length → (∀ (i : Nat) q v, ps[i]? = some q → vs[i]? = some v → q.1 = v.1 ∧ Cv ρ m q.2 v.2) →
    xs.length = ps.length ∧ (∀ (i : Nat) v, vs[i]? = some v → v.1 = n + i ∧ v.2.cells.size = k.n) ∧ ∀ (i : Nat) (h1 : i < xs.length) (h2 : i < (vs.map fun v => v.2.cells.toList).length), k.R m xs[i] ((vs.map fun v => v.2.cells.toList)[i])
  | [], n, xs, h, vs, hl, hp => by
    simp only [rowsM, Option.some.injEq] at h; subst h
    have : vs = [] := List.eq_nil_of_length_eq_zero hl
    subst this
    exact ⟨rfl, fun i v hv => by simp at hv, fun i h1 => by simp at h1⟩
  | (i0, x) :: l, n, xs, h, vs, hl, hp => by
    cases vs with
    | nil => simp at hl
    | cons q vs =>
      obtain ⟨i', v⟩ := q
      obtain ⟨hi, hv⟩ := hp 0 (i0, x) (i', v) rfl rfl
      simp only at hi hv; subst hi
      unfold rowsM at h
      split at h
      · rename_i hg
        simp only [Bool.and_eq_true, beq_iff_eq] at hg
        obtain ⟨⟨rfl, hn⟩, hs⟩ := hg
        split at h
        · rename_i y ys hy hys
          simp only [Option.some.injEq] at h; subst h
          have hcv := cells_ok hs hv
          have hcl := CvL.length hcv
          obtain ⟨_, g2⟩ := updL_ok hcv _ y 0 _ hy (dfc_ok m k)
          have hdl := Kd.R.len _ _ _ (dfc_ok m k)
          rw [List.take_zero, List.nil_append, List.drop_of_length_le (by omega), List.append_nil] at g2
          obtain ⟨p1, p2, p3⟩ := rowsM_ok hys (vs := vs) (by simpa using hl) (fun j q w hq hw => hp (j + 1) q w (by simpa using hq) (by simpa using hw))
          refine ⟨by simp [p1], fun j w hw => ?_, fun j h1 h2 => ?_⟩
          · cases j with
            | zero => simp at hw; subst hw; exact ⟨rfl, by rw [← Array.length_toList, hcl, hn]⟩
            | succ j =>
              have := p2 j w (by simpa using hw)
              exact ⟨by omega, this.2⟩
          · cases j with
            | zero => simpa using g2
            | succ j =>
              have h3 : j < (vs.map fun v => v.2.cells.toList).length := by simpa using h2
              have := p3 j (by simpa using h1) h3
              simpa using this
        · cases h
      · cases h

theorem fill_rows (sz : Nat) : ∀ (ps : List (Nat × Value)) (n : Nat) (cs : List Value), (∀ (i : Nat) v, ps[i]? = some v → v.1 = n + i ∧ v.2.cells.size = sz) → (n + ps.length) * sz ≤ cs.length →
    Instr.fill (fun i => some (i * sz, sz)) cs.toArray ps = some (cs.take (n * sz) ++ ((ps.map fun v => v.2.cells.toList).flatten ++ cs.drop ((n + ps.length) * sz))).toArray
  | [], n, cs, _, _ => by simp [Instr.fill]
  | (i, v) :: ps, n, cs, h, hl => by
    obtain ⟨h1, h2⟩ := h 0 (i, v) rfl
    simp only [Nat.add_zero] at h1 h2; subst h1
    have hle : (i + 1) * sz ≤ (i + (ps.length + 1)) * sz := Nat.mul_le_mul_right _ (by omega)
    simp only [List.length_cons] at hl
    rw [Nat.add_mul, Nat.one_mul] at hle
    unfold Instr.fill
    simp only
    rw [if_neg (by simp [h2]; omega)]
    have hfold : (v.cells.zipIdx.foldl (fun cs (x : Value × Nat) => cs.setIfInBounds (i * sz + x.2) x.1) cs.toArray) = (cs.take (i * sz) ++ (v.cells.toList ++ cs.drop (i * sz + sz))).toArray := by
      apply Array.ext'
      rw [← Array.foldl_toList, Array.toList_zipIdx]
      have := fold_set v.cells.toList cs.toArray (i * sz) 0 (by simp [h2]; omega)
      simp only [Nat.add_zero] at this
      rw [show v.cells.toList.length = sz by simpa using h2] at this
      exact this
    rw [show (v.cells.zipIdx.foldl (fun cs (c, j) => cs.setIfInBounds (i * sz + j) c) cs.toArray) = _ from hfold]
    have hcl : (cs.take (i * sz) ++ (v.cells.toList ++ cs.drop (i * sz + sz))).length = cs.length := by simp [h2]; omega
    rw [fill_rows sz ps (i + 1) _ (fun j w hw => by
      obtain ⟨a, b⟩ := h (j + 1) w (by simpa using hw); exact ⟨by omega, b⟩) (by rw [hcl, show i + 1 + ps.length = i + (ps.length + 1) by omega]; exact hl)]
    congr 2
    have e1 : (cs.take (i * sz) ++ (v.cells.toList ++ cs.drop (i * sz + sz))).take ((i + 1) * sz) = cs.take (i * sz) ++ v.cells.toList := by
      have hv : v.cells.toList.length = sz := by simpa using h2
      have hlt : (cs.take (i * sz)).length = i * sz := by rw [List.length_take]; omega
      rw [Nat.add_mul, Nat.one_mul, List.take_append, List.take_of_length_le (l := cs.take (i * sz)) (by omega), hlt, Nat.add_sub_cancel_left, List.take_append_of_le_length (l₁ := v.cells.toList) (by omega), List.take_of_length_le (l := v.cells.toList) (by omega)]
    have e2 : (cs.take (i * sz) ++ (v.cells.toList ++ cs.drop (i * sz + sz))).drop ((i + 1 + ps.length) * sz) = cs.drop ((i + (ps.length + 1)) * sz) := by
      have hv : v.cells.toList.length = sz := by simpa using h2
      have hge : (i + 1) * sz ≤ (i + 1 + ps.length) * sz := Nat.mul_le_mul_right _ (by omega)
      rw [Nat.add_mul, Nat.one_mul] at hge
      have hlt : (cs.take (i * sz)).length = i * sz := by simp; omega
      rw [List.drop_append, List.drop_of_length_le (by omega), List.nil_append, List.drop_append, List.drop_of_length_le (by rw [hlt, hv]; omega), List.nil_append, List.drop_drop, hlt, hv]
      congr 1
      rw [show i + (ps.length + 1) = i + 1 + ps.length by omega]; omega
    rw [e1, e2]
    simp

theorem buildSlice_ok {P : Program} {X : Nat → Prop} {ρ : Nat → Hd} {m : Mem} {L : Nat → Option MObj} {w : World} (h : Hp X ρ m L w) {T : Nat} {i : TI} (ht : TOK P T i) {k : Kd} (hk : i.ek = some k) {d : Nat} (hfr : ∀ k o, L k = some o → k ≠ d → o.has d = false)
    {ps : List (Nat × MV)} {xs : List k.T} (hx : rowsM k 0 ps = some xs) {vs : List (Nat × Value)} (hl : vs.length = ps.length) (hp : ∀ (j : Nat) q v, ps[j]? = some q → vs[j]? = some v → q.1 = v.1 ∧ Cv ρ m q.2 v.2) {len : Nat} (hlen : len = ps.length) (hb : len * i.esz ≤ 16777216) (h1 : 1 ≤ i.esz) :
    HRes P X ρ m L w d (do pure (.value (← Instr.buildSlice T len vs.toArray))) (.sl d) [(d, some (.rows k xs))] true := by
  obtain ⟨hslc, hkn, je, z, hje, _, hz, hzr⟩ := ht.ek k hk
  obtain ⟨hund, hsz⟩ := ht.slc hslc
  obtain ⟨j', hj', hjs⟩ := sizeb_ok hsz
  rw [hje] at hj'; cases hj'
  have hzl : z.cells.size = i.esz := by
    have := Kd.R.len _ _ _ (hzr m); rw [← hkn, ← this]; simp
  obtain ⟨g1, g2, g3⟩ := rowsM_ok hx hl hp
  have hcss : xs.length = (vs.map fun v => v.2.cells.toList).length := by rw [g1, List.length_map, hl]
  obtain ⟨r1, r2⟩ := rows_at hcss g3 []
  have hvl : vs.length = len := by rw [hl, hlen]
  obtain ⟨w', n1, n2⟩ := run_newRow (P := P) i.elem ((vs.map fun v => v.2.cells.toList).flatten).toArray w
  have hrun : (Instr.buildSlice T len vs.toArray).run P w = .ok (.slice (some ⟨w.heap.size, 0, none⟩) len len) w' := by
    unfold Instr.buildSlice
    rw [run_bind', run_underlying hund]; simp only
    rw [run_bind', run_sizeOf hje, hjs]; simp only
    rw [if_neg (by simp; omega)]
    have hfill : ∀ cs : List Value, cs.length = len * i.esz → Instr.fill (fun q => some (q * i.esz, i.esz)) cs.toArray vs = some ((vs.map fun v => v.2.cells.toList).flatten).toArray := by
      intro cs hcs
      have := fill_rows i.esz vs 0 cs (fun j v hv => by have := g2 j v hv; exact ⟨this.1, by rw [this.2, hkn]⟩) (by rw [hcs, Nat.zero_add, hvl]; exact Nat.le_refl _)
      rw [this, Nat.zero_mul, List.take_zero, List.nil_append, List.drop_of_length_le (by rw [hcs, Nat.zero_add, hvl]; exact Nat.le_refl _), List.append_nil]
    split
    · rename_i h0
      rw [run_bind', run_pure]; simp only
      have h0' : len = 0 := by
        rcases Nat.mul_eq_zero.1 h0 with h | h
        · exact h
        · omega
      have := hfill [] (by rw [h0']; simp)
      rw [h0']
      have hr0 : Array.range 0 = #[] := rfl
      rw [Nat.zero_mul, hr0, Array.map_empty, this]; simp only
      rw [run_bind', n1]; rfl
    · rw [run_bind', run_zeroValue hje hz]; simp only
      rw [run_bind', run_pure]; simp only
      have := hfill ((Array.range (len * i.esz)).map (fun q => z.cells[q % z.cells.size]!)).toList (by simp)
      rw [Array.toArray_toList] at this
      rw [this]; simp only
      rw [run_bind', n1]; rfl
  refine new_rows_ok h hfr n2 (cap := len) (by rw [g1]; omega) ?_ (by simpa using r2) _ ?_
  · rw [r1, g1, hlen]
  · rw [run_bind', hrun, g1, ← hlen]; rfl

theorem hdM_ok {ρ : Nat → Hd} {m : Mem} {sz : Nat} : ∀ {ps : List (Nat × MV)} {n : Nat} {cs : List MV}, hdM sz n ps = some cs → ∀ {vs : List (Nat × Value)}, vs.length = ps.length → (∀ (i : Nat) q v, ps[i]? = some q → vs[i]? = some v → q.1 = v.1 ∧ Cv ρ m q.2 v.2) →
    (∀ (i : Nat) v, vs[i]? = some v → v.1 = n + i ∧ v.2.cells.size = sz) ∧ CvL ρ m cs (vs.map fun v => v.2.cells.toList).flatten
  | [], n, cs, h, vs, hl, _ => by
    simp only [hdM, Option.some.injEq] at h; subst h
    have : vs = [] := List.eq_nil_of_length_eq_zero hl
    subst this
    exact ⟨fun i v hv => by simp at hv, rfl⟩
  | (i0, x) :: l, n, cs, h, vs, hl, hp => by
    cases vs with
    | nil => simp at hl
    | cons q vs =>
      obtain ⟨i', v⟩ := q
      obtain ⟨hi, hv⟩ := hp 0 (i0, x) (i', v) rfl rfl
      simp only at hi hv; subst hi
      unfold hdM at h
      split at h
      · rename_i hg
        simp only [Bool.and_eq_true, beq_iff_eq] at hg
        obtain ⟨⟨rfl, hn⟩, hs⟩ := hg
        split at h
        · rename_i r hr
          simp only [Option.some.injEq] at h; subst h
          have hcv := cells_ok hs hv
          have hcl := CvL.length hcv
          obtain ⟨p1, p2⟩ := hdM_ok hr (vs := vs) (by simpa using hl) (fun j q w hq hw => hp (j + 1) q w (by simpa using hq) (by simpa using hw))
          refine ⟨fun j w hw => ?_, ?_⟩
          · cases j with
            | zero => simp at hw; subst hw; exact ⟨rfl, by rw [← Array.length_toList, hcl, hn]⟩
            | succ j =>
              have := p1 j w (by simpa using hw)
              exact ⟨by omega, this.2⟩
          · simp only [List.map_cons, List.flatten_cons]
            exact hcv.append p2
        · cases h
      · cases h

theorem buildHd_ok {P : Program} {X : Nat → Prop} {ρ : Nat → Hd} {m : Mem} {L : Nat → Option MObj} {w : World} (h : Hp X ρ m L w) {T : Nat} {i ie : TI} (ht : TOK P T i) (hslc : i.slc = true) (hte : TOK P i.elem ie) {d : Nat} (hfr : ∀ k o, L k = some o → k ≠ d → o.has d = false)
    {ps : List (Nat × MV)} {cs : List MV} (hx : hdM i.esz 0 ps = some cs) (hd : MV.hasL d cs = false) {vs : List (Nat × Value)} (hl : vs.length = ps.length) (hp : ∀ (j : Nat) q v, ps[j]? = some q → vs[j]? = some v → q.1 = v.1 ∧ Cv ρ m q.2 v.2) {len : Nat} (hlen : len = ps.length) (hb : len * i.esz ≤ 16777216) (h1 : 1 ≤ i.esz) :
    HRes P X ρ m L w d (do pure (.value (← Instr.buildSlice T len vs.toArray))) (.hd d len) [(d, some (.cells cs))] true := by
  obtain ⟨hund, hsz⟩ := ht.slc hslc
  obtain ⟨je, hje, hjs⟩ := sizeb_ok hsz
  obtain ⟨je', z, hj', _, _, hz, _⟩ := hte.info
  rw [hje] at hj'; cases hj'
  obtain ⟨g2, g3⟩ := hdM_ok hx hl hp
  have hvl : vs.length = len := by rw [hl, hlen]
  obtain ⟨w', n1, n2⟩ := run_newRow (P := P) i.elem ((vs.map fun v => v.2.cells.toList).flatten).toArray w
  have hrun : (Instr.buildSlice T len vs.toArray).run P w = .ok (.slice (some ⟨w.heap.size, 0, none⟩) len len) w' := by
    unfold Instr.buildSlice
    rw [run_bind', run_underlying hund]; simp only
    rw [run_bind', run_sizeOf hje, hjs]; simp only
    rw [if_neg (by simp; omega)]
    have hfill : ∀ cs : List Value, cs.length = len * i.esz → Instr.fill (fun q => some (q * i.esz, i.esz)) cs.toArray vs = some ((vs.map fun v => v.2.cells.toList).flatten).toArray := by
      intro cs hcs
      have := fill_rows i.esz vs 0 cs g2 (by rw [hcs, Nat.zero_add, hvl]; exact Nat.le_refl _)
      rw [this, Nat.zero_mul, List.take_zero, List.nil_append, List.drop_of_length_le (by rw [hcs, Nat.zero_add, hvl]; exact Nat.le_refl _), List.append_nil]
    split
    · rename_i h0
      rw [run_bind', run_pure]; simp only
      have h0' : len = 0 := by
        rcases Nat.mul_eq_zero.1 h0 with h | h
        · exact h
        · omega
      have := hfill [] (by rw [h0']; simp)
      rw [h0']
      have hr0 : Array.range 0 = #[] := rfl
      rw [Nat.zero_mul, hr0, Array.map_empty, this]; simp only
      rw [run_bind', n1]; rfl
    · rw [run_bind', run_zeroValue hje hz]; simp only
      rw [run_bind', run_pure]; simp only
      have := hfill ((Array.range (len * i.esz)).map (fun q => z.cells[q % z.cells.size]!)).toList (by simp)
      rw [Array.toArray_toList] at this
      rw [this]; simp only
      rw [run_bind', n1]; rfl
  refine ⟨_, w', setρ ρ d ⟨w.heap.size, 0, 0, false, 0⟩, ?_, .inl ⟨.slice (some ⟨w.heap.size, 0, none⟩) len len, rfl, by simp only [Cv, setρ_eq]⟩, ?_⟩
  · rw [run_bind', hrun]; rfl
  · have ho : osat (setρ ρ d ⟨w.heap.size, 0, 0, false, 0⟩) m w' d (.cells cs) := by
      refine ⟨by rw [setρ_eq], _, i.elem, ?_, g3.setρ hd⟩
      rw [setρ_eq, n2.heap]; simp
    obtain ⟨q1, q2⟩ := n2.hp h (hd := ⟨w.heap.size, 0, 0, false, 0⟩) rfl hfr ho
    exact ⟨q1, q2, fun k hk => setρ_ne _ _ _ hk, fun e => by cases e⟩

theorem makeSlice_ok {P : Program} {X : Nat → Prop} {ρ : Nat → Hd} {m : Mem} {L : Nat → Option MObj} {w : World} (h : Hp X ρ m L w) {T : Nat} {i : TI} (ht : TOK P T i) {k : Kd} (hk : i.ek = some k) {d : Nat} (hfr : ∀ k o, L k = some o → k ≠ d → o.has d = false)
    {n c : Int} (h0 : 0 ≤ n) (hnc : n ≤ c) (hc : c * (i.eb : Int) ≤ 140737488355328) (hb : 1 ≤ i.eb) (h1 : 1 ≤ i.esz) (kn kc : IntKind) :
    HRes P X ρ m L w d (do pure (.value (← Instr.makeSlice T (.int kn n) (.int kc c)))) (.sl d) [(d, some (.rows k (List.replicate n.toNat k.df)))] true := by
  obtain ⟨hslc, hkn, je, z, hje, hjb, hz, hzr⟩ := ht.ek k hk
  obtain ⟨hund, hsz⟩ := ht.slc hslc
  obtain ⟨j', hj', hjs⟩ := sizeb_ok hsz
  rw [hje] at hj'; cases hj'
  have hzl : z.cells.size = i.esz := by
    have := Kd.R.len _ _ _ (hzr m); rw [← hkn, ← this]; simp
  have hcb : c ≤ c * (i.eb : Int) := by
    have : c * 1 ≤ c * (i.eb : Int) := Int.mul_le_mul_of_nonneg_left (by omega) (by omega)
    omega
  have hw1 : IntKind.i64.wrap n = n := by
    have e1 : IntKind.i64.bits = 64 := rfl
    have e2 : IntKind.i64.signed = true := rfl
    unfold IntKind.wrap
    simp only [e1, e2, Bool.true_and, decide_eq_true_eq]
    omega
  have hw2 : IntKind.i64.wrap c = c := by
    have e1 : IntKind.i64.bits = 64 := rfl
    have e2 : IntKind.i64.signed = true := rfl
    unfold IntKind.wrap
    simp only [e1, e2, Bool.true_and, decide_eq_true_eq]
    omega
  obtain ⟨w', n1, n2⟩ := run_newRow (P := P) i.elem (((List.replicate c.toNat z.cells.toList).flatten).toArray) w
  have hrun : (Instr.makeSlice T (.int kn n) (.int kc c)).run P w = .ok (.slice (some ⟨w.heap.size, 0, none⟩) n.toNat c.toNat) w' := by
    unfold Instr.makeSlice
    rw [run_bind', run_underlying hund]; simp only
    rw [run_bind', show (asInt (.int kn n)).run P w = .ok n w from rfl]; simp only
    rw [run_bind', show (asInt (.int kc c)).run P w = .ok c w from rfl]; simp only
    rw [run_bind', show (typeInfo i.elem).run P w = .ok je w by simp [typeInfo, program, Sem.run, hje, pure]]; simp only
    rw [hw1, hw2, hjb]
    have hcom : (i.eb : Int) * c = c * (i.eb : Int) := Int.mul_comm _ _
    rw [if_neg (by simp; omega)]
    have hroom : (askRoom (c.toNat * i.eb)).run P w = .ok () w := by
      unfold askRoom
      split <;> rfl
    rw [run_bind', hroom]; simp only
    rw [run_bind', run_sizeOf hje, hjs]; simp only
    have hcells : ((Array.range (c.toNat * i.esz)).map (fun q => z.cells[q % z.cells.size]!)) = ((List.replicate c.toNat z.cells.toList).flatten).toArray := by
      apply Array.ext'
      rw [← hzl]; exact range_zero z.cells (by omega) c.toNat
    split
    · rename_i hz0
      rw [run_bind', run_pure]; simp only
      have : c.toNat = 0 := by
        rcases Nat.mul_eq_zero.1 hz0 with h | h
        · exact h
        · omega
      rw [this] at n1 ⊢
      have hr0 : Array.range 0 = #[] := rfl
      rw [Nat.zero_mul, hr0, Array.map_empty]
      simp only [List.replicate_zero, List.flatten_nil] at n1
      rw [run_bind', n1]; rfl
    · rw [run_bind', run_zeroValue hje hz]; simp only
      rw [run_bind', run_pure]; simp only
      rw [hcells, run_bind', n1]; rfl
  have hr := fun q hq => rows_repl (hzr m) c.toNat q hq
  refine new_rows_ok h hfr n2 (cap := c.toNat) (by simp; omega) ?_ (fun q hq => ?_) _ ?_
  · rw [List.length_flatten]; simp [hzl, hkn]
  · simp only [List.length_replicate] at hq
    rw [List.getElem_replicate]
    exact hr q (by omega)
  · rw [run_bind', hrun, List.length_replicate]; rfl

theorem hasL_repl {d : Nat} {l : List MV} (h : MV.hasL d l = false) : ∀ n : Nat, MV.hasL d (List.replicate n l).flatten = false
  | 0 => rfl
  | n + 1 => by
    have app : ∀ a b : List MV, MV.hasL d a = false → MV.hasL d b = false → MV.hasL d (a ++ b) = false := by
      intro a
      induction a with
      | nil => intro b _ h; exact h
      | cons x a ih =>
        intro b h h'
        simp only [MV.hasL, Bool.or_eq_false_iff, List.cons_append] at h ⊢
        exact ⟨h.1, ih b h.2 h'⟩
    rw [List.replicate_succ, List.flatten_cons]; exact app _ _ h (hasL_repl h n)
theorem cvL_repl {ρ : Nat → Hd} {m : Mem} {l : List MV} {vs : List Value} (h : CvL ρ m l vs) : ∀ n : Nat, CvL ρ m (List.replicate n l).flatten (List.replicate n vs).flatten
  | 0 => rfl
  | n + 1 => by
    rw [List.replicate_succ, List.flatten_cons, List.replicate_succ, List.flatten_cons]; exact h.append (cvL_repl h n)
/-- a slice of so many empty slices, of its own -/
theorem makeHd_ok {P : Program} {X : Nat → Prop} {ρ : Nat → Hd} {m : Mem} {L : Nat → Option MObj} {w : World} (h : Hp X ρ m L w) {T : Nat} {i ie : TI} (ht : TOK P T i) (hslc : i.slc = true) (hte : TOK P i.elem ie) {d : Nat} (hfr : ∀ k o, L k = some o → k ≠ d → o.has d = false)
    {n : Int} (h0 : 0 ≤ n) (hc : n.toNat * ie.bytes ≤ 16777216) (hb : 1 ≤ ie.bytes) (h1 : 1 ≤ i.esz) (hzs : ie.zero.length = i.esz) (kn kc : IntKind) :
    HRes P X ρ m L w d (do pure (.value (← Instr.makeSlice T (.int kn n) (.int kc n)))) (.hd d n.toNat) [(d, some (.cells (List.replicate n.toNat ie.zero).flatten))] true := by
  obtain ⟨hund, hsz⟩ := ht.slc hslc
  obtain ⟨je, hje, hjs⟩ := sizeb_ok hsz
  obtain ⟨je', z, hj', _, hjb, hz, hzc⟩ := hte.info
  rw [hje] at hj'; cases hj'
  have hzl : z.cells.size = i.esz := by
    have := CvL.length (hzc ρ m); rw [← hzs, ← this]; simp
  have hcb : n ≤ 16777216 := by
    have : n.toNat * 1 ≤ n.toNat * ie.bytes := Nat.mul_le_mul_left _ hb
    omega
  have hcb2 : n * (ie.bytes : Int) ≤ 16777216 := by
    have e : n * (ie.bytes : Int) = ((n.toNat * ie.bytes : Nat) : Int) := by rw [Int.natCast_mul, Int.toNat_of_nonneg h0]
    omega
  have hw1 : IntKind.i64.wrap n = n := by
    have e1 : IntKind.i64.bits = 64 := rfl
    have e2 : IntKind.i64.signed = true := rfl
    unfold IntKind.wrap
    simp only [e1, e2, Bool.true_and, decide_eq_true_eq]
    omega
  obtain ⟨w', n1, n2⟩ := run_newRow (P := P) i.elem (((List.replicate n.toNat z.cells.toList).flatten).toArray) w
  have hrun : (Instr.makeSlice T (.int kn n) (.int kc n)).run P w = .ok (.slice (some ⟨w.heap.size, 0, none⟩) n.toNat n.toNat) w' := by
    unfold Instr.makeSlice
    rw [run_bind', run_underlying hund]; simp only
    rw [run_bind', show (asInt (.int kn n)).run P w = .ok n w from rfl]; simp only
    rw [run_bind', show (asInt (.int kc n)).run P w = .ok n w from rfl]; simp only
    rw [run_bind', show (typeInfo i.elem).run P w = .ok je w by simp [typeInfo, program, Sem.run, hje, pure]]; simp only
    rw [hw1, hjb]
    have hcom : (ie.bytes : Int) * n = n * (ie.bytes : Int) := Int.mul_comm _ _
    rw [if_neg (by simp; omega)]
    have hroom : (askRoom (n.toNat * ie.bytes)).run P w = .ok () w := by
      unfold askRoom
      split <;> rfl
    rw [run_bind', hroom]; simp only
    rw [run_bind', run_sizeOf hje, hjs]; simp only
    have hcells : ((Array.range (n.toNat * i.esz)).map (fun q => z.cells[q % z.cells.size]!)) = ((List.replicate n.toNat z.cells.toList).flatten).toArray := by
      apply Array.ext'
      rw [← hzl]; exact range_zero z.cells (by omega) n.toNat
    split
    · rename_i hz0
      rw [run_bind', run_pure]; simp only
      have : n.toNat = 0 := by
        rcases Nat.mul_eq_zero.1 hz0 with h | h
        · exact h
        · omega
      rw [this] at n1 ⊢
      have hr0 : Array.range 0 = #[] := rfl
      rw [Nat.zero_mul, hr0, Array.map_empty]
      simp only [List.replicate_zero, List.flatten_nil] at n1
      rw [run_bind', n1]; rfl
    · rw [run_bind', run_zeroValue hje hz]; simp only
      rw [run_bind', run_pure]; simp only
      rw [hcells, run_bind', n1]; rfl
  refine ⟨_, w', setρ ρ d ⟨w.heap.size, 0, 0, false, 0⟩, ?_, .inl ⟨.slice (some ⟨w.heap.size, 0, none⟩) n.toNat n.toNat, rfl, by simp only [Cv, setρ_eq]⟩, ?_⟩
  · rw [run_bind', hrun]; rfl
  · have ho : osat (setρ ρ d ⟨w.heap.size, 0, 0, false, 0⟩) m w' d (.cells (List.replicate n.toNat ie.zero).flatten) := by
      refine ⟨by rw [setρ_eq], _, i.elem, ?_, (cvL_repl (hzc ρ m) n.toNat).setρ (hasL_repl (hte.zfr d) n.toNat)⟩
      rw [setρ_eq, n2.heap]; simp
    obtain ⟨q1, q2⟩ := n2.hp h (hd := ⟨w.heap.size, 0, 0, false, 0⟩) rfl hfr ho
    exact ⟨q1, q2, fun k hk => setρ_ne _ _ _ hk, fun e => by cases e⟩

end Go.Fo
