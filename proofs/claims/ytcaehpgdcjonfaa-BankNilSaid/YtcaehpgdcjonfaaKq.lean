/- All the operations that write or make memory together. -/
import Derived.Test.YtcaehpgdcjonfaaKp
namespace Go.Fo

theorem opd_fresh {A : List (Nat × MV)} {d : Nat} (hA : ∀ s x, get A s = some x → x.has d = false) {x : Operand} {y : MV} (h : opd A x = some y) : y.has d = false := by
  cases x with
  | tmp t => exact hA t y h
  | const v =>
    simp only [opd, Option.some.injEq] at h; subst h
    unfold ofc
    split <;> rfl
  | func f => simp only [opd, Option.some.injEq] at h; subst h; rfl
  | global g => simp [opd] at h

theorem opg_fresh {A : List (Nat × MV)} {d : Nat} (hA : ∀ s x, get A s = some x → x.has d = false) {g : Option Bool} {x : Operand} {y : MV} {C : Prop} (h : opg A g x = some (y, C)) : y.has d = false := by
  unfold opg at h
  split at h
  · rename_i t z hz
    have := opd_fresh hA hz
    split at h
    · simp only [Option.some.injEq, Prod.mk.injEq] at h; obtain ⟨rfl, _⟩ := h; exact this
    · cases h
  · rename_i z _ hz
    simp only [Option.some.injEq, Prod.mk.injEq] at h; obtain ⟨rfl, _⟩ := h
    exact opd_fresh hA hz
  · cases h

theorem mvcells_fresh {x : MV} {d : Nat} (h : x.has d = false) : MV.hasL d (mvcells x) = false := by
  cases x <;> simp_all [mvcells, MV.has, MV.hasL]

theorem hasL_append {d : Nat} : ∀ {l l' : List MV}, MV.hasL d l = false → MV.hasL d l' = false → MV.hasL d (l ++ l') = false
  | [], _, _, h => h
  | x :: l, l', h, h' => by
    simp only [MV.hasL, Bool.or_eq_false_iff, List.cons_append] at h ⊢
    exact ⟨h.1, hasL_append h.2 h'⟩
theorem partsM_fresh {A : List (Nat × MV)} {d : Nat} (hA : ∀ s x, get A s = some x → x.has d = false) {g : Option Bool} : ∀ {l : List (Nat × Operand)} {ps : List (Nat × MV)} {C : Prop}, partsM A g l = some (ps, C) → ∀ q ∈ ps, q.2.has d = false
  | [], ps, C, h => by
    simp only [partsM, Option.some.injEq, Prod.mk.injEq] at h; obtain ⟨rfl, _⟩ := h
    intro q hq; cases hq
  | (i, x) :: l, ps, C, h => by
    unfold partsM at h
    split at h
    · rename_i y E ys F h1 h2
      simp only [Option.some.injEq, Prod.mk.injEq] at h; obtain ⟨rfl, _⟩ := h
      intro q hq
      rcases List.mem_cons.1 hq with rfl | hq
      · exact opg_fresh hA h1
      · exact partsM_fresh hA h2 q hq
    · cases h
theorem hdM_fresh {sz d : Nat} : ∀ {ps : List (Nat × MV)} {n : Nat} {cs : List MV}, hdM sz n ps = some cs → (∀ q ∈ ps, q.2.has d = false) → MV.hasL d cs = false
  | [], n, cs, h, _ => by simp only [hdM, Option.some.injEq] at h; subst h; rfl
  | (i, x) :: l, n, cs, h, hp => by
    unfold hdM at h
    split at h
    · split at h
      · rename_i r hr
        simp only [Option.some.injEq] at h; subst h
        exact hasL_append (mvcells_fresh (hp _ (List.mem_cons_self ..))) (hdM_fresh hr fun q hq => hp q (List.mem_cons_of_mem _ hq))
      · cases h
    · cases h

theorem aty_of {P : Program} {tab : Nat → Option TI} (hT : ∀ t i, tab t = some i → TOK P t i) {tys : Array TypeId} {T : TypeId} {i : TI} (h0 : tys[0]? = some T) (hi : tab T = some i) (hslc : i.slc = true)
    (h1 : (tys[1]? == some T || tys[1]?.any fun t => (tab t).any (·.slc)) = true) : ATy P tys T := by
  refine ⟨h0, fun t ht => ?_⟩
  rw [ht] at h1
  simp only [Bool.or_eq_true, beq_iff_eq, Option.some.injEq, Option.any_some] at h1
  rcases h1 with rfl | h1
  · exact ⟨_, ((hT _ _ hi).slc hslc).1, fun q e => by cases e⟩
  · cases ht' : tab t with
    | none => rw [ht'] at h1; simp at h1
    | some j => rw [ht'] at h1; exact ⟨_, ((hT _ _ ht').slc (by simpa using h1)).1, fun q e => by cases e⟩

theorem heap_ok {P : Program} {tab : Nat → Option TI} (hT : ∀ t i, tab t = some i → TOK P t i) {A : List (Nat × MV)} {Lv : List (Nat × Option MObj)} {g : Option Bool} (hg : GOK g) {d : Nat} {o : Oper} {mv : MV} {U : List (Nat × Option MObj)} {fr : Bool} {C : Prop}
    (h : heapD tab A Lv g d o.op = some (mv, U, fr, C)) (hC : C) {X : Nat → Prop} {ρ : Nat → Hd} {m : Mem} {L : Nat → Option MObj} {a : Act} {w : World} (hA : Slots ρ m A a) (hL : ∀ k x, getO Lv k = some x → L k = some x) (hH : Hp X ρ m L w)
    (hfr : fr = true → ∀ k o, L k = some o → k ≠ d → o.has d = false) (hAf : fr = true → ∀ s x, get A s = some x → x.has d = false) : HRes P X ρ m L w d (execOp a.eval o) mv U fr := by
  have hO : ∀ k o, getO Lv k = some o → osat ρ m w k o := fun k o hk => hH.obj k o (hL k o hk)
  obtain ⟨dst, op, ty, pos, after, guard⟩ := o
  simp only at h
  unfold heapD at h
  split at h
  · -- store
    rename_i T x v
    split at h
    · rename_i i key off D v' E h0 h1 h2
      split at h
      · rename_i cs hk
        split at h
        · rename_i hc
          simp only [Bool.and_eq_true, beq_iff_eq, decide_eq_true_eq] at hc
          simp only [Option.some.injEq, Prod.mk.injEq] at h; obtain ⟨rfl, rfl, rfl, rfl⟩ := h
          have hx := opg_ok hA hg h1 hC.1
          have hv := opg_ok hA hg h2 hC.2
          simp only [Cv] at hx
          have := store_cells_ok (P := P) hH (hT _ _ h0) (hL _ _ hk) hv hc.1.1.1 hc.1.1.2 hc.1.2 hc.2 d
          rw [← hx] at this
          exact this
        · cases h
      · cases h
    · rename_i i key j f D v' E h0 h1 h2
      split at h
      · rename_i k xs hk
        split at h
        · rename_i hc
          simp only [Bool.and_eq_true, beq_iff_eq, decide_eq_true_eq] at hc
          split at h
          · rename_i y hy
            simp only [Option.some.injEq, Prod.mk.injEq] at h; obtain ⟨rfl, rfl, rfl, rfl⟩ := h
            have hx := opg_ok hA hg h1 hC.1
            have hv := opg_ok hA hg h2 hC.2.1
            simp only [Cv] at hx
            have := store_rows_ok (P := P) hH (hT _ _ h0) (hL _ _ hk) hv hc.1.1.1 hc.1.1.2 hc.1.2 hC.2.2 hc.2 hy d
            rw [← hx] at this
            exact this
          · cases h
        · cases h
      · cases h
    · rename_i i key o j D v' E h0 h1 h2
      split at h
      · rename_i pre cs post hk
        split at h
        · rename_i hc
          simp only [Bool.and_eq_true, beq_iff_eq, decide_eq_true_eq] at hc
          simp only [Option.some.injEq, Prod.mk.injEq] at h; obtain ⟨rfl, rfl, rfl, rfl⟩ := h
          have hx := opg_ok hA hg h1 hC.1
          have hv := opg_ok hA hg h2 hC.2.1
          simp only [Cv] at hx
          have := store_foc_ok (P := P) hH (hT _ _ h0) (hL _ _ hk) hv hc.1.1.1 hc.1.1.2 hc.1.2 hc.2 d
          rw [← hC.2.2, ← hx] at this
          exact this
        · cases h
      · cases h
    · cases h
  · -- box
    rename_i T x
    split at h
    · rename_i x' D h1
      split at h
      · rename_i hs
        simp only [Option.some.injEq, Prod.mk.injEq] at h; obtain ⟨rfl, rfl, rfl, rfl⟩ := h
        have hv := opg_ok hA hg h1 hC
        exact new_cells_ok hH (hfr rfl) (mvcells_fresh (opg_fresh (hAf rfl) h1)) (cells_ok hs hv) T (Instr.box T (a.eval x)) (fun w' hw => by
          unfold Instr.box newVar
          rw [run_bind', hw]; rfl)
      · cases h
    · cases h
  · -- alloc
    rename_i T
    split at h
    · rename_i i h0
      simp only [Option.some.injEq, Prod.mk.injEq] at h; obtain ⟨rfl, rfl, rfl, rfl⟩ := h
      obtain ⟨j, z, hj, _, _, hz, hzc⟩ := (hT _ _ h0).info
      exact new_cells_ok hH (hfr rfl) ((hT _ _ h0).zfr d) (hzc ρ m) T (Instr.alloc T true (.tuple #[])) (fun w' hw => by
        unfold Instr.alloc newVar
        rw [run_bind', run_zeroValue hj hz]; simp only
        rw [run_bind', hw]; rfl)
    · cases h
  · -- buildSlice
    rename_i T len parts
    split at h
    · rename_i i ps D h0 h1
      split at h
      · rename_i k hk
        split at h
        · rename_i xs hx
          split at h
          · rename_i hc
            simp only [Bool.and_eq_true, beq_iff_eq, decide_eq_true_eq] at hc
            simp only [Option.some.injEq, Prod.mk.injEq] at h; obtain ⟨rfl, rfl, rfl, rfl⟩ := h
            obtain ⟨g1, g2⟩ := partsM_ok hA hg h1 hC
            have := buildSlice_ok (P := P) hH (hT _ _ h0) hk (hfr rfl) hx g1 g2 hc.1.1 hc.1.2 hc.2
            rw [show (parts.toList.map fun x => (x.1, a.eval x.2)).toArray = (parts.map fun (i, x) => (i, a.eval x)) by apply Array.ext'; simp] at this
            exact this
          · cases h
        · cases h
      · split at h
        · rename_i hc
          simp only [Bool.and_eq_true, beq_iff_eq, decide_eq_true_eq, Option.isSome_iff_exists] at hc
          obtain ⟨⟨⟨⟨c1, ie, c2⟩, c3⟩, c4⟩, c5⟩ := hc
          split at h
          · rename_i cs hx
            simp only [Option.some.injEq, Prod.mk.injEq] at h; obtain ⟨rfl, rfl, rfl, rfl⟩ := h
            obtain ⟨g1, g2⟩ := partsM_ok hA hg h1 hC
            have := buildHd_ok (P := P) hH (hT _ _ h0) c1 (hT _ _ c2) (hfr rfl) hx (hdM_fresh hx (partsM_fresh (hAf rfl) h1)) g1 g2 c3 c4 c5
            rw [show (parts.toList.map fun x => (x.1, a.eval x.2)).toArray = (parts.map fun (i, x) => (i, a.eval x)) by apply Array.ext'; simp] at this
            exact this
          · cases h
        · cases h
    · cases h
  · -- makeSlice
    rename_i T n c
    split at h
    · rename_i i kn n' D kc c' E h0 h1 h2
      split at h
      · rename_i k hk
        split at h
        · rename_i hc
          simp only [Bool.and_eq_true, decide_eq_true_eq] at hc
          simp only [Option.some.injEq, Prod.mk.injEq] at h; obtain ⟨rfl, rfl, rfl, rfl⟩ := h
          have hn := opg_ok hA hg h1 hC.1
          have hcc := opg_ok hA hg h2 hC.2.1
          simp only [Cv] at hn hcc
          have := makeSlice_ok (P := P) hH (hT _ _ h0) hk (hfr rfl) hC.2.2.1 hC.2.2.2.1 hC.2.2.2.2 hc.1 hc.2 kn kc
          rw [← hn, ← hcc] at this
          exact this
        · cases h
      · split at h
        · rename_i ie hie
          split at h
          · rename_i hc
            simp only [Bool.and_eq_true, beq_iff_eq, decide_eq_true_eq] at hc
            obtain ⟨⟨⟨⟨⟨⟨c1, rfl⟩, c3⟩, c4⟩, c5⟩, c6⟩, c7⟩ := hc
            simp only [Option.some.injEq, Prod.mk.injEq] at h; obtain ⟨rfl, rfl, rfl, rfl⟩ := h
            have hn := opg_ok hA hg h1 hC.1
            have hcc := opg_ok hA hg h2 hC.2
            simp only [Cv] at hn hcc
            have := makeHd_ok (P := P) hH (hT _ _ h0) c1 (hT _ _ hie) (hfr rfl) c3 c4 c5 c6 c7 kn kc
            rw [← hn, ← hcc] at this
            exact this
          · cases h
        · cases h
    · cases h
  · -- append
    rename_i args argTypes
    split at h
    · rename_i T s x D h0 h1
      split at h
      · rename_i i hi
        obtain ⟨u, us, hu, hs, v, vs, hv, hx, hnil⟩ := opgs_ok hA hg h1 (by
          revert hC
          split at h
          · split at h
            · split at h
              · split at h
                · simp only [Option.some.injEq, Prod.mk.injEq] at h; obtain ⟨_, _, _, rfl⟩ := h; exact fun h => h.1
                · cases h
              · cases h
            · cases h
          · split at h
            · split at h
              · split at h
                · simp only [Option.some.injEq, Prod.mk.injEq] at h; obtain ⟨_, _, _, rfl⟩ := h; exact fun h => h.1
                · cases h
              · cases h
            · cases h
          · cases h)
        subst hv
        simp only [CvL] at hnil; subst hnil
        have hargs : args.map a.eval = #[u, v] := by apply Array.ext'; simpa using hu
        have run : ∀ mv U fr, HRes P X ρ m L w d (do pure (.value (← Builtin.append_ argTypes ty #[u, v]))) mv U fr → HRes P X ρ m L w d (execOp a.eval { dst := dst, op := .call { callee := .builtin .append, args := args, argTypes := argTypes }, type := ty, pos := pos, after := after, guard := guard }) mv U fr := by
          intro mv U fr hr
          rw [← hargs] at hr
          exact hr
        split at h
        · split at h
          · rename_i k hk
            split at h
            · rename_i ys hys
              split at h
              · rename_i hc
                rw [Bool.and_eq_true, decide_eq_true_eq] at hc
                simp only [Option.some.injEq, Prod.mk.injEq] at h; obtain ⟨rfl, rfl, rfl, rfl⟩ := h
                obtain ⟨cs, hsrc⟩ := srcM_ok (P := P) hys hO hH.mem hx
                simp only [Cv] at hs; subst hs
                exact run _ _ _ (append_nil_ok hH (aty_of hT h0 hi ((hT _ _ hi).ek k hk).1 hc.2) (hT _ _ hi) hk hc.1 (hfr rfl) hsrc hC.2)
              · cases h
            · cases h
          · cases h
        · rename_i key
          split at h
          · rename_i k xs k' hkey hk
            split at h
            · rename_i ys hys
              split at h
              · rename_i hc
                rw [Bool.and_eq_true, Bool.and_eq_true, decide_eq_true_eq, decide_eq_true_eq] at hc
                simp only [Option.some.injEq, Prod.mk.injEq] at h; obtain ⟨rfl, rfl, rfl, rfl⟩ := h
                obtain ⟨cs, hsrc⟩ := srcM_ok (P := P) hys hO hH.mem hx
                simp only [Cv] at hs; subst hs
                have hk' := hk
                rw [← hc.1.2] at hk'
                exact run _ _ _ (append_ok hH (aty_of hT h0 hi ((hT _ _ hi).ek k' hk).1 hc.2) (hT _ _ hi) hk' hc.1.1 (hL _ _ hkey) (hfr rfl) hsrc hC.2)
              · cases h
            · cases h
          · cases h
        · cases h
      · cases h
    · cases h
  · -- copy
    rename_i args argTypes
    split at h
    · rename_i T s x D h0 h1
      split at h
      · rename_i i key lo hi hs
        split at h
        · rename_i k xs k' hkey hk
          split at h
          · rename_i ys hys
            split at h
            · rename_i hc
              rw [decide_eq_true_eq] at hc
              subst hc
              simp only [Option.some.injEq, Prod.mk.injEq] at h; obtain ⟨rfl, rfl, rfl, rfl⟩ := h
              obtain ⟨u, us, hu, hsv, v, vs, hv, hx, hnil⟩ := opgs_ok hA hg h1 hC.1
              subst hv
              simp only [CvL] at hnil; subst hnil
              have hargs : args.map a.eval = #[u, v] := by apply Array.ext'; simpa using hu
              have := copy_ok (P := P) (ty := ty) hH h0 (hT _ _ hi) hk hs (hL _ _ hkey) hC.2 hsv (srcT_ok hys hO hH.mem hx) d
              rw [← hargs] at this
              exact this
            · cases h
          · cases h
        · cases h
      · cases h
    · cases h
  · -- clear
    rename_i args argTypes
    split at h
    · rename_i T key D h0 h1
      split at h
      · rename_i i hi
        split at h
        · rename_i k xs k' hkey hk
          split at h
          · rename_i hc
            simp only [Bool.and_eq_true, decide_eq_true_eq] at hc
            obtain ⟨rfl, hc2⟩ := hc
            simp only [Option.some.injEq, Prod.mk.injEq] at h; obtain ⟨rfl, rfl, rfl, rfl⟩ := h
            obtain ⟨u, us, hu, hsv, hnil⟩ := opgs_ok hA hg h1 hC
            simp only [CvL] at hnil; subst hnil
            have hargs : args.map a.eval = #[u] := by apply Array.ext'; simpa using hu
            simp only [Cv] at hsv; subst hsv
            have := clear_ok (P := P) (ty := ty) hH h0 (hT _ _ hi) hk hc2 (hL _ _ hkey) d
            rw [← hargs] at this
            exact this
          · cases h
        · cases h
      · cases h
    · cases h
  · cases h

end Go.Fo
