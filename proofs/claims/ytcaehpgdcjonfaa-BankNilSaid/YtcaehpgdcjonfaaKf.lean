/- What the evaluator tells of the other operations that change no memory is what the machine does. -/
import Derived.Test.YtcaehpgdcjonfaaKe
namespace Go.Fo

theorem unM_ok {P : Program} {op : UnOp} {x r : MV} (h : unM op x = some r) {ρ : Nat → Hd} {m : Mem} {u : Value} (hu : Cv ρ m x u) (w : World) :
    ∃ z, (Op.unary op u).run P w = .ok z w ∧ Cv ρ m r z := by
  unfold unM at h
  split at h
  all_goals first
    | (cases h; done)
    | (simp only [Option.some.injEq] at h; subst h
       simp only [Cv] at hu; subst hu
       exact ⟨_, rfl, rfl⟩)

theorem run_fieldAt {P : Program} {S f : Nat} {fs : Array Field} {g : Field} (hd : P.underlying S = some (.struct fs)) (hg : fs[f]? = some g) {n : Nat} (hn : n ≠ 0) (hs : sizeb P g.type n = true) (b off : Nat) (w : World) :
    (Instr.fieldAt S (.pointer (some ⟨b, off, none⟩)) f).run P w = .ok (.pointer (some ⟨b, off + g.offset, none⟩)) w := by
  obtain ⟨j, hj, hjs⟩ := sizeb_ok hs
  unfold Instr.fieldAt
  rw [run_bind', run_underlying hd]
  simp only [hg]
  rw [run_bind', show (Instr.sureAddr (.pointer (some ⟨b, off, none⟩))).run P w = .ok ⟨b, off, none⟩ w from rfl]
  simp only
  rw [run_bind']
  have : (fieldPlace ⟨b, off, none⟩ g).run P w = .ok ⟨b, off + g.offset, none⟩ w := by
    unfold fieldPlace
    rw [run_bind', run_sizeOf hj, hjs]
    simp only [hn, if_false]
    rw [add_at]; rfl
  rw [this]; rfl

theorem fieldAddrM_ok {P : Program} {S : Nat} {i : TI} (ht : TOK P S i) {x r : MV} {f : Nat} (h : fieldAddrM i x f = some r) {ρ : Nat → Hd} {m : Mem} {u : Value} (hu : Cv ρ m x u) (w : World) :
    ∃ z, (Instr.fieldAt S u f).run P w = .ok z w ∧ Cv ρ m r z := by
  unfold fieldAddrM at h
  split at h
  · cases h
  · rename_i off n ag hf
    obtain ⟨fs, g, hd, hg, ho, hs, _⟩ := ht.fld f _ hf
    simp only at ho hs
    split at h
    · cases h
    · rename_i hn
      simp only [beq_iff_eq] at hn
      split at h
      · rename_i key o
        simp only [Option.some.injEq] at h; subst h
        simp only [Cv] at hu; subst hu
        exact ⟨_, run_fieldAt hd hg hn hs _ _ w, by rw [ho]; rfl⟩
      · rename_i key j o
        simp only [Option.some.injEq] at h; subst h
        simp only [Cv] at hu; subst hu
        exact ⟨_, run_fieldAt hd hg hn hs _ _ w, by simp only [Cv]; rw [ho, Nat.add_assoc]⟩
      · rename_i key o j
        simp only [Option.some.injEq] at h; subst h
        simp only [Cv] at hu; subst hu
        exact ⟨_, run_fieldAt hd hg hn hs _ _ w, by simp only [Cv]; rw [ho, Nat.add_assoc]⟩
      · rename_i k y
        split at h
        · rename_i k' z hz
          simp only [Option.some.injEq] at h; subst h
          obtain ⟨b, o, cells, T, fr, rfl, hm, hl, hr⟩ := hu
          obtain ⟨g1, g2, g3⟩ := at_ok k y _ off n k' z hr hz
          refine ⟨_, run_fieldAt hd hg hn hs _ _ w, b, o + off, cells, T, fr, by rw [ho], hm, by omega, ?_⟩
          rw [g1]
          rw [List.drop_take, List.drop_drop, List.take_take, Nat.min_eq_left (by omega)] at g3
          exact g3
        · cases h
      · cases h

theorem run_part {P : Program} {t n off : Nat} {ag : Bool} (hs : sizeb P t n = true) (ha : aggb P t ag = true) (cs : List Value) (v : Value) (hv : if ag then v = .agg ((cs.drop off).take n).toArray else cs[off]? = some v) (w : World) :
    (part t cs.toArray off).run P w = .ok v w := by
  obtain ⟨j, hj, hjs⟩ := sizeb_ok hs
  obtain ⟨d, hd, hda⟩ := aggb_ok ha
  unfold part
  rw [run_bind', run_isAgg hd, hda]
  cases ag
  · simp only [Bool.false_eq_true, if_false] at hv ⊢
    simp [hv, pure]
  · simp only [if_true] at hv ⊢
    rw [run_bind', run_sizeOf hj, hjs]
    subst hv
    simp only [pure, Sem.run, List.extract_toArray, Result.ok.injEq, Value.agg.injEq, and_true]
    rw [List.extract_eq_take_drop]
    simp

theorem fieldM_ok {P : Program} {S : Nat} {i : TI} (ht : TOK P S i) {x r : MV} {f : Nat} (h : fieldM i x f = some r) {ρ : Nat → Hd} {m : Mem} {u : Value} (hu : Cv ρ m x u) (w : World) :
    ∃ z, (Instr.field S u f).run P w = .ok z w ∧ Cv ρ m r z := by
  unfold fieldM at h
  split at h
  · rename_i off n ag l hf
    obtain ⟨fs, g, hd, hg, ho, hs, ha⟩ := ht.fld f _ hf
    simp only at ho hs ha
    obtain ⟨vs, rfl, hl⟩ := hu
    have fin : ∀ v, (part g.type vs.toArray g.offset).run P w = .ok v w → (Instr.field S (.agg vs.toArray) f).run P w = .ok v w := by
      intro v hv
      unfold Instr.field
      rw [run_bind', run_underlying hd]
      simp only [hg]
      rw [run_bind', show (asAgg (.agg vs.toArray)).run P w = .ok vs.toArray w from rfl]
      exact hv
    split at h
    · rename_i hag
      simp only [Option.some.injEq] at h; subst h
      exact ⟨.agg ((vs.drop off).take n).toArray, fin _ (run_part hs ha vs _ (by rw [hag, ho]; rfl) w), _, rfl, CvL.take n (CvL.drop off hl)⟩
    · rename_i hag
      obtain ⟨v, hv, hc⟩ := CvL.get hl off r h
      exact ⟨v, fin _ (run_part hs ha vs v (by rw [if_neg hag, ho]; exact hv) w), hc⟩
  · cases h

theorem shutM_ok {ρ : Nat → Hd} {m : Mem} {ag : Bool} {l : List MV} {y : MV} (h : shutM ag l = some y) {vs : List Value} (hc : CvL ρ m l vs) : Cv ρ m y (shutC ag vs) ∧ (ag = true ∨ vs.length = 1) := by
  unfold shutM at h
  unfold shutC
  split at h
  · rename_i hag
    simp only [Option.some.injEq] at h; subst h
    rw [if_pos hag]
    exact ⟨⟨vs, rfl, hc⟩, .inl hag⟩
  · rename_i hag
    rw [if_neg hag]
    unfold one at h
    split at h
    · simp only [Option.some.injEq] at h; subst h
      obtain ⟨v, us, rfl, h1, h2⟩ := hc
      simp only [CvL] at h2; subst h2
      exact ⟨h1, .inr rfl⟩
    · cases h

theorem run_loadAt {P : Program} {T : Nat} (b off : Nat) (w : World) : (Instr.loadAt T (.pointer (some ⟨b, off, none⟩))).run P w = (loadVar T ⟨b, off, none⟩).run P w := rfl

theorem loadM_ok {P : Program} {T : Nat} {i : TI} (ht : TOK P T i) {L : List (Nat × Option MObj)} {x r : MV} {C : Prop} (h : loadM i L x = some (r, C)) (hC : C) {ρ : Nat → Hd} {m : Mem} {w : World}
    (hO : ∀ k o, getO L k = some o → osat ρ m w k o) (hM : ∀ b o, m b = some o → w.heap[b]? = some o) {u : Value} (hu : Cv ρ m x u) :
    ∃ z, (Instr.loadAt T u).run P w = .ok z w ∧ Cv ρ m r z := by
  unfold loadM at h
  split at h
  · rename_i key off
    split at h
    · rename_i cs hk
      split at h
      · rename_i hlen
        simp only [decide_eq_true_eq] at hlen
        simp only [Option.map_eq_some_iff, Prod.mk.injEq] at h
        obtain ⟨y, hy, rfl, rfl⟩ := h
        obtain ⟨_, vs, T', hb, hl⟩ := hO _ _ hk
        simp only [Cv] at hu; subst hu
        have hvl := CvL.length hl
        obtain ⟨g1, g2⟩ := shutM_ok hy (CvL.take i.size (CvL.drop off hl))
        refine ⟨_, ?_, g1⟩
        rw [run_loadAt, run_loadVar ht hb (by simp; omega) ?_]
        rcases g2 with g2 | g2
        · exact .inl g2
        · right; rw [List.length_take, List.length_drop] at g2; omega
      · cases h
    · cases h
  · rename_i key o j
    split at h
    · rename_i pre cs post hk
      split at h
      · rename_i hlen
        simp only [decide_eq_true_eq] at hlen
        simp only [Option.map_eq_some_iff, Prod.mk.injEq] at h
        obtain ⟨y, hy, rfl, rfl⟩ := h
        obtain ⟨_, v1, v2, v3, T', hb, l1, hl, l3⟩ := hO _ _ hk
        simp only [Cv] at hu; subst hu
        have hvl := CvL.length hl
        have hv1 := CvL.length l1
        obtain ⟨g1, g2⟩ := shutM_ok hy (CvL.take i.size (CvL.drop j hl))
        have hsh : ((v1 ++ (v2 ++ v3)).drop (o + j)).take i.size = (v2.drop j).take i.size := by
          rw [hC, ← hv1, List.drop_append, List.drop_of_length_le (by omega), List.nil_append, show v1.length + j - v1.length = j by omega, List.drop_append_of_le_length (by omega), List.take_append_of_le_length (by rw [List.length_drop]; omega)]
        refine ⟨_, ?_, g1⟩
        rw [run_loadAt, run_loadVar ht hb (by rw [hC, ← hv1]; simp; omega) ?_]
        · simp only [hsh]
        · rcases g2 with g2 | g2
          · exact .inl g2
          · right; rw [List.length_take, List.length_drop] at g2; omega
      · cases h
    · cases h
  · rename_i k y
    split at h
    · rename_i hn
      simp only [beq_iff_eq] at hn
      simp only [Option.map_eq_some_iff, Prod.mk.injEq] at h
      obtain ⟨z, hz, rfl, rfl⟩ := h
      obtain ⟨b, off, cells, T', fr, rfl, hm, hl, hr⟩ := hu
      rw [hn] at hr hl
      have hf := flat_ok (ρ := ρ) k y _ hr
      obtain ⟨g1, g2⟩ := shutM_ok hz hf
      refine ⟨_, ?_, g1⟩
      rw [run_loadAt, run_loadVar ht (hM _ _ hm) hl ?_]
      rcases g2 with g2 | g2
      · exact .inl g2
      · right; rw [List.length_take, List.length_drop] at g2; simp at g2; omega
    · cases h
  · rename_i key j f
    split at h
    · rename_i k xs hk
      split at h
      · rename_i k' y hat
        simp only [Option.map_eq_some_iff, Prod.mk.injEq] at h
        obtain ⟨z, hz, rfl, rfl⟩ := h
        obtain ⟨g0, g1, g2⟩ := hO _ _ hk
        rcases g2 with ⟨_, rfl⟩ | ⟨_, hcap, vs, T', hb, hvl, hel⟩
        · simp at hC
        · have hr := hel j hC
          have hnth : k.nth xs j = xs[j] := by unfold Kd.nth; rw [List.getD_eq_getElem?_getD, List.getElem?_eq_getElem hC]; rfl
          rw [← hnth] at hr
          obtain ⟨p1, p2, p3⟩ := at_ok k _ _ f i.size k' y hr hat
          rw [List.drop_take, List.drop_drop, List.take_take, Nat.min_eq_left (by omega)] at p3
          simp only [Cv] at hu; subst hu
          rw [g1]
          have hf := flat_ok (ρ := ρ) k' y _ p3
          obtain ⟨q1, q2⟩ := shutM_ok hz hf
          have hjn : (j + 1) * k.n ≤ (ρ key).cap * k.n := Nat.mul_le_mul_right _ (by omega)
          rw [Nat.add_mul, Nat.one_mul] at hjn
          refine ⟨_, ?_, q1⟩
          rw [run_loadAt, run_loadVar ht hb (by simp; omega) ?_]
          rcases q2 with q2 | q2
          · exact .inl q2
          · right; rw [List.length_take, List.length_drop] at q2; omega
      · cases h
    · cases h
  · cases h

theorem add_mul_at (b off n sz : Nat) : (⟨b, off, none⟩ : Addr).add (n * sz) = ⟨b, off + n * sz, none⟩ := add_at b off (n * sz)

theorem indexAddrM_ok {P : Program} {T : Nat} {i : TI} (ht : TOK P T i) {L : List (Nat × Option MObj)} {x r : MV} {n : Int} {C : Prop} (h : indexAddrM i L x n = some (r, C)) (hC : C) {ρ : Nat → Hd} {m : Mem} {w : World}
    (hO : ∀ k o, getO L k = some o → osat ρ m w k o) {u : Value} (hu : Cv ρ m x u) (k : IntKind) : ∃ z, (Instr.indexAt T u (.int k n)).run P w = .ok z w ∧ Cv ρ m r z := by
  unfold indexAddrM at h
  split at h
  · rename_i hslc
    obtain ⟨hund, hsz⟩ := ht.slc hslc
    obtain ⟨j, hj, hjs⟩ := sizeb_ok hsz
    have hag : ∀ w, (underlying T).run P w = .ok (.slice i.elem) w := fun w => run_underlying hund w
    have fin : ∀ (b off len cap : Nat), 0 ≤ n ∧ n < (len : Int) → (Instr.indexAt T (.slice (some ⟨b, off, none⟩) len cap) (.int k n)).run P w = .ok (.pointer (some ⟨b, off + n.toNat * i.esz, none⟩)) w := by
      intro b off len cap hn
      unfold Instr.indexAt
      simp only [asIntOf, bind, Sem.bind, pure, run_bind, hag, Sem.run, hn, and_self, if_true, run_sizeOf hj, hjs, add_mul_at]
    split at h
    · rename_i e l
      split at h
      · rename_i he
        simp only [beq_iff_eq] at he
        simp only [Option.some.injEq, Prod.mk.injEq] at h; obtain ⟨rfl, rfl⟩ := h
        obtain ⟨v, hv, hs⟩ := hu
        simp only [List.cons.injEq, and_true] at hv; subst hv
        obtain ⟨b, off, cap, cells, T', fr, rfl, h1, h2, h3⟩ := slr_nth hs (i := n.toNat) (by omega)
        refine ⟨_, fin b off l.length cap hC, b, _, cells, T', fr, rfl, h1, ?_, ?_⟩
        · rw [← he]; exact h2
        · rw [← he]; exact h3
      · cases h
    · rename_i key
      split at h
      · rename_i k' xs hk
        split at h
        · rename_i he
          simp only [beq_iff_eq] at he
          simp only [Option.some.injEq, Prod.mk.injEq] at h; obtain ⟨rfl, rfl⟩ := h
          obtain ⟨g0, g1, g2⟩ := hO _ _ hk
          simp only [Cv] at hu; subst hu
          rcases g2 with ⟨_, rfl⟩ | ⟨hn, _⟩
          · simp at hC; omega
          · refine ⟨_, by unfold Hd.hdr; rw [hn, g0]; exact fin _ 0 xs.length _ hC, ?_⟩
            simp only [Cv]; rw [g1, he, Nat.zero_add, Nat.add_zero]
        · cases h
      · cases h
    · rename_i key c
      simp only [Option.some.injEq, Prod.mk.injEq] at h; obtain ⟨rfl, rfl⟩ := h
      simp only [Cv] at hu; subst hu
      exact ⟨_, fin _ 0 c c hC, by simp only [Cv, Nat.zero_add]⟩
    · cases h
  · split at h
    · rename_i harr
      obtain ⟨hund, hsz, _⟩ := ht.arr harr
      obtain ⟨j, hj, hjs⟩ := sizeb_ok hsz
      have hag : ∀ w, (underlying T).run P w = .ok (.array i.alen i.elem) w := fun w => run_underlying hund w
      split at h
      · rename_i key off
        split at h
        · simp only [Option.some.injEq, Prod.mk.injEq] at h; obtain ⟨rfl, rfl⟩ := h
          simp only [Cv] at hu; subst hu
          refine ⟨_, ?_, rfl⟩
          unfold Instr.indexAt
          simp only [asIntOf, bind, Sem.bind, pure, run_bind, hag, Sem.run, hC, and_self, if_true, run_sizeOf hj, hjs, add_mul_at, Instr.sureAddr]
        · cases h
      · cases h
    · cases h

theorem intsM_ok {ρ : Nat → Hd} {m : Mem} : ∀ {l : List MV} {k : IntKind} {xs : List Int} {vs : List Value}, intsM l = some (k, xs) → CvL ρ m l vs → xs.length = l.length ∧ ∀ (j : Nat), j < l.length → vs[j]? = some (.int k (xs.getD j 0)) := by
  intro l
  induction l with
  | nil => intro k xs vs h; simp [intsM] at h
  | cons y l ih =>
    intro k xs vs h hc
    unfold intsM at h
    split at h
    · rename_i k0 x0 heq
      simp only [List.cons.injEq] at heq
      obtain ⟨rfl, rfl⟩ := heq
      simp only [Option.some.injEq, Prod.mk.injEq] at h; obtain ⟨rfl, rfl⟩ := h
      obtain ⟨v, us, rfl, hv, hus⟩ := hc
      simp only [Cv] at hv; subst hv
      refine ⟨rfl, fun j hj => ?_⟩
      have : j = 0 := by simpa using hj
      subst this; rfl
    · rename_i k0 x0 l0 _ heq
      simp only [List.cons.injEq] at heq
      obtain ⟨rfl, rfl⟩ := heq
      split at h
      · rename_i k' xs' hxs
        split at h
        · rename_i hk; subst hk
          simp only [Option.some.injEq, Prod.mk.injEq] at h; obtain ⟨rfl, rfl⟩ := h
          obtain ⟨v, us, rfl, hv, hus⟩ := hc
          simp only [Cv] at hv; subst hv
          obtain ⟨g1, g2⟩ := ih hxs hus
          refine ⟨by simp [g1], fun j hj => ?_⟩
          cases j with
          | zero => rfl
          | succ j => simpa using g2 j (by simpa using hj)
        · cases h
      · cases h
    · cases h

theorem cvl_range {ρ : Nat → Hd} {m : Mem} {k : IntKind} (g : Nat → Int) : ∀ (vs : List Value) (o : Nat), (∀ j, j < vs.length → vs[j]? = some (.int k (g (o + j)))) → CvL ρ m ((List.range vs.length).map fun j => .int k (g (o + j))) vs
  | [], _, _ => rfl
  | v :: vs, o, h => by
    have h0 := h 0 (by simp)
    simp only [List.getElem?_cons_zero, Option.some.injEq, Nat.add_zero] at h0
    subst h0
    rw [List.length_cons, List.range_succ_eq_map, List.map_cons, List.map_map]
    refine ⟨_, vs, rfl, rfl, ?_⟩
    have := cvl_range (ρ := ρ) (m := m) (k := k) g vs (o + 1) (fun j hj => by
      have := h (j + 1) (by simpa using hj)
      rw [List.getElem?_cons_succ] at this
      rw [this, show o + (j + 1) = o + 1 + j by omega])
    have e : (fun j => MV.int k (g (o + 1 + j))) = ((fun j => MV.int k (g (o + j))) ∘ Nat.succ) := by
      funext j; simp only [Function.comp, Nat.succ_eq_add_one]; rw [show o + (j + 1) = o + 1 + j by omega]
    rw [← e]; exact this
theorem run_part_agg {P : Program} {t s : Nat} {e : TypeDesc} (h : P.underlying t = some e) (ha : isAggD e = true) {j : TypeInfo} (hj : P.info? t = some j) (hs : j.size = s) {cs : Array Value} {o : Nat} (w : World) : (part t cs o).run P w = .ok (.agg (cs.extract o (o + s))) w := by
  unfold part
  rw [run_bind', run_isAgg h, ha]
  simp only [if_true]
  rw [run_bind', run_sizeOf hj, hs]; rfl
theorem indexM_ok {P : Program} {T : Nat} {i : TI} (ht : TOK P T i) {x r : MV} {n : Int} {C : Prop} (h : indexM i x n = some (r, C)) (hC : C) {ρ : Nat → Hd} {m : Mem} {u : Value} (hu : Cv ρ m x u) (k : IntKind) (w : World) :
    ∃ z, (Instr.index T u (.int k n)).run P w = .ok z w ∧ Cv ρ m r z := by
  unfold indexM at h
  split at h
  · rename_i s
    split at h
    · rename_i hg
      simp only [beq_iff_eq] at hg
      simp only [Option.some.injEq, Prod.mk.injEq] at h; obtain ⟨rfl, rfl⟩ := h
      obtain ⟨d, hd, _, htag⟩ := ht.und
      have : d = .string := by rw [hg] at htag; cases d <;> simp_all [tagOf]
      subst this
      simp only [Cv] at hu; subst hu
      have hlt : n.toNat < s.size := by omega
      refine ⟨.int .u8 (sbyte s n.toNat), ?_, rfl⟩
      unfold Instr.index
      rw [run_bind', show (asIntOf (.int k n)).run P w = .ok (k, n) w from rfl]
      simp only
      rw [run_bind', run_underlying hd]
      simp only [hC.1, if_true, sbyte]
      rw [getElem?_pos s n.toNat hlt]; rfl
    · cases h
  · rename_i l
    split at h
    · rename_i hg
      simp only [Bool.and_eq_true, beq_iff_eq, Bool.not_eq_true'] at hg
      obtain ⟨⟨⟨ha, he⟩, hag⟩, hal⟩ := hg
      split at h
      · rename_i k' xs hxs
        simp only [Option.some.injEq, Prod.mk.injEq] at h; obtain ⟨rfl, rfl⟩ := h
        obtain ⟨hund, hsz, hagg⟩ := ht.arr ha
        obtain ⟨vs, rfl, hl⟩ := hu
        obtain ⟨g1, g2⟩ := intsM_ok hxs hl
        obtain ⟨j, hj, hjs⟩ := sizeb_ok hsz
        refine ⟨.int k' (xs.getD n.toNat 0), ?_, rfl⟩
        unfold Instr.index
        rw [run_bind', show (asIntOf (.int k n)).run P w = .ok (k, n) w from rfl]
        simp only
        rw [run_bind', run_underlying hund]
        simp only [hal, hC, and_self, if_true]
        rw [run_bind', run_sizeOf hj, hjs, he]
        simp only [Nat.mul_one]
        exact run_part hsz hagg vs _ (by rw [hag]; exact g2 _ (by omega)) w
      · cases h
    · split at h
      · rename_i hg
        simp only [Bool.and_eq_true, beq_iff_eq] at hg
        obtain ⟨⟨ha, hag⟩, hal⟩ := hg
        split at h
        · rename_i k' xs hxs
          simp only [Option.some.injEq, Prod.mk.injEq] at h; obtain ⟨rfl, rfl⟩ := h
          obtain ⟨hund, hsz, hagg⟩ := ht.arr ha
          obtain ⟨vs, rfl, hl⟩ := hu
          obtain ⟨g1, g2⟩ := intsM_ok hxs hl
          obtain ⟨j, hj, hjs⟩ := sizeb_ok hsz
          obtain ⟨e, he, hea⟩ := aggb_ok hagg
          have hvl := CvL.length hl
          have hle : (n.toNat + 1) * i.esz ≤ i.alen * i.esz := Nat.mul_le_mul_right _ (by omega)
          rw [Nat.add_mul, Nat.one_mul] at hle
          refine ⟨.agg (vs.toArray.extract (n.toNat * i.esz) (n.toNat * i.esz + i.esz)), ?_, ?_⟩
          · unfold Instr.index
            rw [run_bind', show (asIntOf (.int k n)).run P w = .ok (k, n) w from rfl]
            simp only
            rw [run_bind', run_underlying hund]
            simp only [hC, and_self, if_true]
            rw [run_bind', run_sizeOf hj, hjs]
            exact run_part_agg he (by rw [hea, hag]) hj hjs w
          · have hlen : ((vs.drop (n.toNat * i.esz)).take i.esz).length = i.esz := by rw [List.length_take, List.length_drop]; omega
            refine ⟨(vs.drop (n.toNat * i.esz)).take i.esz, ?_, ?_⟩
            · congr 1
              apply Array.ext'
              simp [List.drop_take]
            · have := cvl_range (ρ := ρ) (m := m) (k := k') (fun j => xs.getD j 0) ((vs.drop (n.toNat * i.esz)).take i.esz) (n.toNat * i.esz) (fun j hj => by
                rw [hlen] at hj
                rw [List.getElem?_take, if_pos hj, List.getElem?_drop]
                exact g2 _ (by omega))
              rw [hlen] at this; exact this
        · cases h
      · cases h
  · cases h

end Go.Fo
