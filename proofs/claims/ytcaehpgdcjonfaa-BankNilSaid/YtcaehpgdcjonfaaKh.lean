/- Parts laid into rows of cells; slice expressions; and all the operations that change no memory together. -/
import Derived.Test.YtcaehpgdcjonfaaKg
namespace Go.Fo

theorem cells_ok {ρ : Nat → Hd} {m : Mem} {x : MV} {v : Value} (hs : solid x = true) (h : Cv ρ m x v) : CvL ρ m (mvcells x) v.cells.toList := by
  have triv : ∀ (y : MV), v.cells = #[v] → Cv ρ m y v → CvL ρ m [y] v.cells.toList := fun y h1 h2 => by rw [h1]; exact ⟨v, [], rfl, h2, rfl⟩
  cases x with
  | agg l => obtain ⟨vs, rfl, hl⟩ := h; simpa [Value.cells, mvcells] using hl
  | cnd t y => simp [solid] at hs
  | raw u => simp [solid] at hs
  | tup l => simp [solid] at hs
  | im k y =>
    cases k with
    | slice e =>
      obtain ⟨z, hz, h2⟩ := h
      simp only [List.cons.injEq, and_true] at hz
      rcases h2 with ⟨a, h3, h4⟩ | ⟨b, off, cap, cells, T', fr, h3, h5⟩
      · refine triv _ (by rw [hz, h3]; rfl) ⟨z, by rw [hz], .inl ⟨a, h3, h4⟩⟩
      · exact triv _ (by rw [hz, h3]; rfl) ⟨z, by rw [hz], .inr ⟨b, off, cap, cells, T', fr, h3, h5⟩⟩
    | _ => simp [solid] at hs
  | int k y => exact triv _ (by simp only [Cv] at h; rw [h]; rfl) h
  | bool y => exact triv _ (by simp only [Cv] at h; rw [h]; rfl) h
  | str y => exact triv _ (by simp only [Cv] at h; rw [h]; rfl) h
  | nilp => exact triv _ (by simp only [Cv] at h; rw [h]; rfl) h
  | nils => exact triv _ (by simp only [Cv] at h; rw [h]; rfl) h
  | nilf => exact triv _ (by simp only [Cv] at h; rw [h]; rfl) h
  | nili => exact triv _ (by simp only [Cv] at h; rw [h]; rfl) h
  | nilm => exact triv _ (by simp only [Cv] at h; rw [h]; rfl) h
  | p k o => exact triv _ (by simp only [Cv] at h; rw [h]; rfl) h
  | hd k o => exact triv _ (by simp only [Cv] at h; rw [h]; rfl) h
  | sv k o => exact triv _ (by simp only [Cv] at h; rw [h]; rfl) h
  | pf k o j => exact triv _ (by simp only [Cv] at h; rw [h]; rfl) h
  | pe k j o => exact triv _ (by simp only [Cv] at h; rw [h]; rfl) h
  | sl k => exact triv _ (by simp only [Cv] at h; rw [h]; unfold Hd.hdr; split <;> rfl) h
  | pim k y => exact triv _ (by obtain ⟨b, off, cells, T', fr, h1, _⟩ := h; rw [h1]; rfl) h
  | fn f l => exact triv _ (by obtain ⟨vs, h1, _⟩ := h; rw [h1]; rfl) h
  | ifc t y => exact triv _ (by obtain ⟨z, h1, _⟩ := h; rw [h1]; rfl) h

theorem fold_set : ∀ (l : List Value) (cs : Array Value) (off j : Nat), off + j + l.length ≤ cs.size →
    ((l.zipIdx j).foldl (fun cs (c, j) => cs.setIfInBounds (off + j) c) cs).toList = cs.toList.take (off + j) ++ (l ++ cs.toList.drop (off + j + l.length))
  | [], cs, off, j, h => by simp
  | c :: l, cs, off, j, h => by
    simp only [List.length_cons] at h
    rw [List.zipIdx_cons, List.foldl_cons, fold_set l _ off (j + 1) (by simp only [Array.size_setIfInBounds]; omega)]
    have hlt : off + j < cs.toList.length := by simp; omega
    simp only [Array.toList_setIfInBounds]
    have e1 : (cs.toList.set (off + j) c).take (off + (j + 1)) = cs.toList.take (off + j) ++ [c] := by
      rw [show off + (j + 1) = off + j + 1 by omega, List.take_succ_eq_append_getElem (by simpa using hlt), List.getElem_set_self, List.take_set_of_le (Nat.le_refl _)]
    have e2 : (cs.toList.set (off + j) c).drop (off + (j + 1) + l.length) = cs.toList.drop (off + j + (l.length + 1)) := by
      rw [List.drop_set_of_lt (by omega)]; congr 1; omega
    rw [e1, e2, List.append_assoc]; rfl

/-- what is laid, cell by cell -/
theorem fill_ok {ρ : Nat → Hd} {m : Mem} {pl : Nat → Option (Nat × Nat)} : ∀ {parts : List (Nat × MV)} {cs r : List MV}, fillM pl cs parts = some r → ∀ {vs : List Value} {ps : List (Nat × Value)}, CvL ρ m cs vs →
    ps.length = parts.length → (∀ (i : Nat) q v, parts[i]? = some q → ps[i]? = some v → q.1 = v.1 ∧ Cv ρ m q.2 v.2) → ∃ us, Instr.fill pl vs.toArray ps = some us.toArray ∧ CvL ρ m r us
  | [], cs, r, h, vs, ps, hc, hl, _ => by
    simp only [fillM, Option.some.injEq] at h; subst h
    have : ps = [] := List.eq_nil_of_length_eq_zero hl
    subst this
    exact ⟨vs, rfl, hc⟩
  | (i, x) :: rest, cs, r, h, vs, ps, hc, hl, hp => by
    cases ps with
    | nil => simp at hl
    | cons q ps =>
      obtain ⟨i', v⟩ := q
      obtain ⟨hi, hv⟩ := hp 0 (i, x) (i', v) rfl rfl
      simp only at hi hv; subst hi
      unfold fillM at h
      split at h
      · cases h
      · rename_i off n hpl
        split at h
        · rename_i hg
          simp only [Bool.and_eq_true, beq_iff_eq, decide_eq_true_eq] at hg
          obtain ⟨⟨hs, hn⟩, hb⟩ := hg
          have hcv := cells_ok hs hv
          have hvl := CvL.length hcv
          have hcl := CvL.length hc
          rw [hn] at hvl
          have hsz : v.cells.size = n := by simpa using hvl
          unfold Instr.fill
          simp only [hpl]
          rw [if_neg (by simp [hsz, hcl, hb])]
          have hfold : (v.cells.zipIdx.foldl (fun cs (x : Value × Nat) => cs.setIfInBounds (off + x.2) x.1) vs.toArray) = (vs.take off ++ (v.cells.toList ++ vs.drop (off + n))).toArray := by
            apply Array.ext'
            rw [← Array.foldl_toList, Array.toList_zipIdx]
            have := fold_set v.cells.toList vs.toArray off 0 (by simp [hsz]; omega)
            simp only [Nat.add_zero] at this
            rw [show v.cells.toList.length = n by simpa using hsz] at this
            exact this
          have := fill_ok h (vs := vs.take off ++ (v.cells.toList ++ vs.drop (off + n))) (ps := ps) (CvL.append (CvL.take off hc) (CvL.append hcv (CvL.drop _ hc))) (by simpa using hl) (fun j q w hq hw => hp (j + 1) q w (by simpa using hq) (by simpa using hw))
          obtain ⟨us, h1, h2⟩ := this
          exact ⟨us, by rw [← h1]; exact congrArg (fun c => Instr.fill pl c ps) hfold, h2⟩
        · cases h

theorem partsM_ok {ρ : Nat → Hd} {m : Mem} {A : List (Nat × MV)} {a : Act} (h : Slots ρ m A a) {g : Option Bool} (hg : GOK g) : ∀ {l : List (Nat × Operand)} {ps : List (Nat × MV)} {C : Prop}, partsM A g l = some (ps, C) → C →
    (l.map fun x => (x.1, a.eval x.2)).length = ps.length ∧ ∀ (i : Nat) q v, ps[i]? = some q → (l.map fun x => (x.1, a.eval x.2))[i]? = some v → q.1 = v.1 ∧ Cv ρ m q.2 v.2
  | [], ps, C, hx, hC => by
    simp only [partsM, Option.some.injEq, Prod.mk.injEq] at hx; obtain ⟨rfl, rfl⟩ := hx
    exact ⟨rfl, fun i q v hq => by simp at hq⟩
  | (j, x) :: l, ps, C, hx, hC => by
    unfold partsM at hx
    split at hx
    · rename_i y D zs E h1 h2
      simp only [Option.some.injEq, Prod.mk.injEq] at hx
      obtain ⟨rfl, rfl⟩ := hx
      obtain ⟨g1, g2⟩ := partsM_ok h hg h2 hC.2
      refine ⟨by simpa using g1, fun i q v hq hv => ?_⟩
      cases i with
      | zero => simp at hq hv; subst hq hv; exact ⟨rfl, opg_ok h hg h1 hC.1⟩
      | succ i => exact g2 i q v (by simpa using hq) (by simpa using hv)
    · cases hx

theorem mapM_places {P : Program} {fs : Array Field} (w : World) (hf : ∀ g ∈ fs.toList, ∃ j, P.info? g.type = some j) :
    (fs.mapM (fun f => do pure (f.offset, ← sizeOf f.type) : Field → Sem (Nat × Nat))).run P w = .ok (fs.map fun f => (f.offset, ((P.info? f.type).map (·.size)).getD 0)) w := by
  rw [Array.mapM_eq_mapM_toList]
  have key : ∀ (l : List Field), (∀ g ∈ l, ∃ j, P.info? g.type = some j) → (l.mapM (fun f => do pure (f.offset, ← sizeOf f.type) : Field → Sem (Nat × Nat))).run P w = .ok (l.map fun f => (f.offset, ((P.info? f.type).map (·.size)).getD 0)) w := by
    intro l
    induction l with
    | nil => intro _; rfl
    | cons g l ih =>
      intro h
      obtain ⟨j, hj⟩ := h g (by simp)
      rw [List.mapM_cons, run_bind', run_bind', run_sizeOf hj]
      simp only [run_pure]
      rw [run_bind', ih (fun g' h' => h g' (by simp [h']))]
      simp [hj]
  show ((_ : Sem (List (Nat × Nat))) >>= fun l => pure (List.toArray l)).run P w = _
  rw [run_bind', key _ hf]
  simp only [run_pure, Result.ok.injEq, and_true]
  apply Array.ext'; simp

theorem buildM_ok {P : Program} {T : Nat} {i : TI} (ht : TOK P T i) {ps : List (Nat × MV)} {r : MV} (h : buildM i ps = some r) {ρ : Nat → Hd} {m : Mem} {vs : List (Nat × Value)} (hl : vs.length = ps.length)
    (hp : ∀ (j : Nat) q v, ps[j]? = some q → vs[j]? = some v → q.1 = v.1 ∧ Cv ρ m q.2 v.2) (w : World) : ∃ z, (Instr.build T vs.toArray).run P w = .ok z w ∧ Cv ρ m r z := by
  obtain ⟨j, z, hj, _, _, hz, hzc⟩ := ht.info
  have hzv := run_zeroValue hj hz w
  unfold buildM at h
  split at h
  · rename_i harr
    obtain ⟨hund, hsz, _⟩ := ht.arr harr
    obtain ⟨j', hj', hjs⟩ := sizeb_ok hsz
    simp only [Option.map_eq_some_iff] at h
    obtain ⟨cs, hcs, rfl⟩ := h
    obtain ⟨us, h1, h2⟩ := fill_ok hcs (hzc ρ m) hl hp
    refine ⟨.agg us.toArray, ?_, us, rfl, h2⟩
    unfold Instr.build
    rw [run_bind', hzv]; simp only
    rw [run_bind', run_underlying hund]; simp only
    rw [run_bind', run_sizeOf hj', hjs]; simp only
    rw [show z.cells = z.cells.toList.toArray by simp, h1]; rfl
  · split at h
    · cases h
    rename_i harr hf
    simp only [Option.map_eq_some_iff] at h
    obtain ⟨cs, hcs, rfl⟩ := h
    obtain ⟨q, hq⟩ : ∃ q, i.fields[0]? = some q := by
      cases hh : i.fields with
      | nil => rw [hh] at hf; simp at hf
      | cons q l => exact ⟨q, rfl⟩
    obtain ⟨fs, g, hund, _⟩ := ht.fld 0 q hq
    have hlen := ht.flen fs hund
    obtain ⟨us, h1, h2⟩ := fill_ok hcs (hzc ρ m) hl hp
    refine ⟨.agg us.toArray, ?_, us, rfl, h2⟩
    have hall : ∀ g ∈ fs.toList, ∃ j, P.info? g.type = some j := by
      intro g hg
      obtain ⟨k, hk, rfl⟩ := List.getElem_of_mem hg
      have hk' : k < i.fields.length := by rw [← hlen]; simpa using hk
      obtain ⟨fs', g', hu', hg', _, hs', _⟩ := ht.fld k i.fields[k] (List.getElem?_eq_getElem hk')
      rw [hund] at hu'; cases hu'
      obtain ⟨j, hj, _⟩ := sizeb_ok hs'
      have : g' = fs.toList[k] := by
        have h3 : fs.toList[k]? = some g' := by simpa using hg'
        rw [List.getElem?_eq_getElem hk] at h3; exact (Option.some.inj h3).symm
      rw [this] at hj; exact ⟨j, hj⟩
    have hpl : (fun (k : Nat) => (fs.map fun f => (f.offset, ((P.info? f.type).map (·.size)).getD 0))[k]?) = fun (k : Nat) => (i.fields[k]?).map fun (q : Nat × Nat × Bool) => (q.1, q.2.1) := by
      funext k
      cases hk : i.fields[k]? with
      | none =>
        have : fs.size ≤ k := by rw [hlen]; exact List.getElem?_eq_none_iff.1 hk
        simp [this]
      | some q =>
        obtain ⟨fs', g', hu', hg', ho, hs', _⟩ := ht.fld k q hk
        rw [hund] at hu'; cases hu'
        obtain ⟨j, hj, hjs⟩ := sizeb_ok hs'
        simp [hg', hj, hjs, ho]
    unfold Instr.build
    rw [run_bind', hzv]; simp only
    rw [run_bind', run_underlying hund]; simp only
    rw [run_bind', mapM_places w hall]; simp only
    rw [hpl, show z.cells = z.cells.toList.toArray by simp, h1]; rfl

end Go.Fo
