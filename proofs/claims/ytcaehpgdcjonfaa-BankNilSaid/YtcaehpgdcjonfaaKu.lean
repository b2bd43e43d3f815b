/- Code over symbolic states: the rules. -/
import Derived.Test.YtcaehpgdcjonfaaKt
namespace Go.Fo

theorem renL_append (π : Nat → Nat) : ∀ l l' : List MV, MV.renL π (l ++ l') = MV.renL π l ++ MV.renL π l'
  | [], _ => rfl
  | x :: l, l' => by simp only [List.cons_append, MV.renL, renL_append π l l']

mutual
theorem ren_id : ∀ x : MV, x.ren (fun k => k) = x
  | .agg l => by simp only [MV.ren, renL_id l]
  | .tup l => by simp only [MV.ren, renL_id l]
  | .fn f l => by simp only [MV.ren, renL_id l]
  | .ifc t x => by simp only [MV.ren, ren_id x]
  | .cnd t x => by simp only [MV.ren, ren_id x]
  | .p _ _ => rfl | .pe _ _ _ => rfl | .sl _ => rfl | .hd _ _ => rfl | .sv _ _ => rfl | .pf _ _ _ => rfl | .int _ _ => rfl | .bool _ => rfl | .str _ => rfl | .nilp => rfl | .nils => rfl | .nilf => rfl | .nili => rfl | .nilm => rfl
  | .im _ _ => rfl | .pim _ _ => rfl | .raw _ => rfl
theorem renL_id : ∀ l : List MV, MV.renL (fun k => k) l = l
  | [] => rfl
  | x :: l => by simp only [MV.renL, ren_id x, renL_id l]
end

/-- what a contract says at the end -/
def FnPost (Γ : Gd) (res : MV) (L' : List (Nat × Option MObj)) (e : Ending) (w' : World) : Prop :=
  ∃ ρ' m' v, e = .returned v ∧ Cv ρ' m' res v ∧ Hp Γ.X ρ' m' (getO L') w' ∧ Nx Γ.X Γ.m0 m' Γ.w0 w' ∧ ∀ k, k < 1000 → ρ' k = Γ.ρ0 k

def initA : Nat → List MV → List (Nat × MV)
  | _, [] => []
  | n, x :: l => (n, x) :: initA (n + 1) l

theorem initA_ok {ρ : Nat → Hd} {m : Mem} : ∀ {xs : List MV} {vs pre : List Value} (rest : List Value), CvL ρ m xs vs → ∀ s x, get (initA pre.length xs) s = some x → ∃ v, (pre ++ (vs ++ rest))[s]? = some v ∧ Cv ρ m x v
  | [], _, _, _, _, s, x, h => by simp [initA, get] at h
  | y :: xs, vs, pre, rest, ⟨v, us, hv, hy, hus⟩, s, x, h => by
    subst hv
    simp only [initA, get] at h
    split at h
    · rename_i e
      have e' := beq_iff_eq.1 e
      simp only [Option.some.injEq] at h; subst h; subst e'
      exact ⟨v, by simp, hy⟩
    · have := initA_ok (xs := xs) (vs := us) (pre := pre ++ [v]) rest hus s x (by simpa using h)
      simpa using this

theorem Fn_of {P : Program} {f : FuncId} {fn : Func} {c : Code} {args : List MV} {Lc Lc' : List (Nat × Option MObj)} {res : MV} (hf : P.funcs[f]? = some fn) (hb : fn.body = some c) (hn : args.length ≤ fn.ntmps)
    (h : ∀ Γ : Gd, TC P Γ fn.ntmps c (bodyPost P fn (FnPost Γ res Lc')) (initA 0 args) Lc) : Fn P f args Lc res Lc' := by
  intro X ρ m w vs hH hv
  have hl := CvL.length hv
  refine calls_of_wp hf hb (h ⟨X, ρ, m, w⟩ _ _ ⟨by simp; omega, rfl, ρ, m, fun s x hx => ?_, hH, Nx.refl X m w, fun _ _ => rfl⟩)
  obtain ⟨v, h1, h2⟩ := initA_ok (pre := []) (List.replicate (fn.ntmps - vs.length) undef) hv s x hx
  refine ⟨v, ?_, h2⟩
  rw [← h1]
  simp only [List.nil_append]
  rw [← Array.getElem?_toList]
  congr 1
  simp

/-- a function's results -/
def resL (tab : Nat → Option TI) (A : List (Nat × MV)) (L : List (Nat × Option MObj)) : List ResultVar → Option (List MV × Prop)
  | [] => some ([], True)
  | .tmp t :: l => match get A t, resL tab A L l with
    | some x, some (xs, C) => some (x :: xs, C)
    | _, _ => none
  | .cell a t :: l => match get A a, tab t, resL tab A L l with
    | some x, some i, some (xs, C) => (match x with
      | .p _ _ => (match loadM i L x with | some (y, D) => some (y :: xs, D ∧ C) | none => none)
      | _ => none)
    | _, _, _ => none
def tupM : List MV → MV
  | [x] => x
  | xs => .tup xs
def resM (tab : Nat → Option TI) (A : List (Nat × MV)) (L : List (Nat × Option MObj)) (rs : List ResultVar) : Option (MV × Prop) :=
  match resL tab A L rs with
  | some (xs, C) => some (tupM xs, C)
  | none => none
theorem run_map {α β : Type} {P : Program} (f : α → β) (s : Sem α) (w : World) : (f <$> s).run P w = match s.run P w with | .ok a w' => .ok (f a) w' | .halt h w' => .halt h w' := run_bind s _ w

def resF (tmps : Array Value) : ResultVar → Sem Value
  | .tmp t => pure (tmps.getD t undef)
  | .cell a t => do loadVar t (← asAddr (tmps.getD a undef))
theorem results_eq (fn : Func) (tmps : Array Value) : results fn tmps = (do
    let vs ← fn.results.mapM (resF tmps)
    pure (if h : vs.size = 1 then vs[0] else .tuple vs)) := rfl
theorem resL_ok {P : Program} (E : Env P) {A : List (Nat × MV)} {L : List (Nat × Option MObj)} {ρ : Nat → Hd} {m : Mem} {w : World} {tmps : Array Value} (hA : ∀ s x, get A s = some x → ∃ v, tmps[s]? = some v ∧ Cv ρ m x v) (hO : ∀ k o, getO L k = some o → osat ρ m w k o) (hM : ∀ b o, m b = some o → w.heap[b]? = some o) :
    ∀ {rs : List ResultVar} {xs : List MV} {C : Prop}, resL E.tab A L rs = some (xs, C) → C → ∃ vs, (rs.mapM (resF tmps)).run P w = .ok vs w ∧ CvL ρ m xs vs
  | [], xs, C, h, _ => by simp only [resL, Option.some.injEq, Prod.mk.injEq] at h; obtain ⟨rfl, rfl⟩ := h; exact ⟨[], rfl, rfl⟩
  | .tmp t :: l, xs, C, h, hC => by
    unfold resL at h
    split at h
    · rename_i x ys D h1 h2
      simp only [Option.some.injEq, Prod.mk.injEq] at h; obtain ⟨rfl, rfl⟩ := h
      obtain ⟨v, hv, hc⟩ := hA t x h1
      obtain ⟨vs, hvs, hcs⟩ := resL_ok E hA hO hM h2 hC
      refine ⟨v :: vs, ?_, v, vs, rfl, hc, hcs⟩
      rw [List.mapM_cons, run_bind', show (resF tmps (.tmp t)).run P w = .ok (tmps.getD t undef) w from rfl]; simp only
      rw [run_bind', hvs]
      simp [hv]
    · cases h
  | .cell b t :: l, xs, C, h, hC => by
    unfold resL at h
    split at h
    · rename_i x i ys D h1 h0 h2
      split at h
      · rename_i key off
        split at h
        · rename_i y F h3
          simp only [Option.some.injEq, Prod.mk.injEq] at h; obtain ⟨rfl, rfl⟩ := h
          obtain ⟨v, hv, hc⟩ := hA b _ h1
          obtain ⟨z, hz, hcz⟩ := loadM_ok (E.tok _ _ h0) h3 hC.1 hO hM hc
          obtain ⟨vs, hvs, hcs⟩ := resL_ok E hA hO hM h2 hC.2
          refine ⟨z :: vs, ?_, z, vs, rfl, hcz, hcs⟩
          have hv' : tmps.getD b undef = .pointer (some ⟨(ρ key).blk, off, none⟩) := by simp only [Cv] at hc; subst hc; simp [hv]
          simp only [Cv] at hc; subst hc
          rw [run_loadAt] at hz
          have hone : (resF tmps (.cell b t)).run P w = .ok z w := by
            show ((asAddr (tmps.getD b undef)) >>= fun a => loadVar t a : Sem Value).run P w = _
            rw [hv', run_bind', show (asAddr (.pointer (some ⟨(ρ key).blk, off, none⟩))).run P w = .ok ⟨(ρ key).blk, off, none⟩ w from rfl]
            exact hz
          rw [List.mapM_cons, run_bind', hone]; simp only
          rw [run_bind', hvs]
          simp
        · cases h
      · cases h
    · cases h

/-- a part of a list of slots; a part of a list of objects -/
def SubA : List (Nat × MV) → List (Nat × MV) → Prop
  | [], _ => True
  | (s, x) :: l, A => get A s = some x ∧ SubA l A
theorem SubA.get : ∀ {l A : List (Nat × MV)}, SubA l A → ∀ s x, get l s = some x → get A s = some x
  | [], _, _, s, x, h => by simp [Go.Fo.get] at h
  | (s', y) :: l, A, ⟨h1, h2⟩, s, x, h => by
    simp only [Go.Fo.get] at h
    split at h
    · rename_i e; have e' := beq_iff_eq.1 e; subst e'; rw [← h]; exact h1
    · exact SubA.get h2 s x h
def SubL : List (Nat × Option MObj) → List (Nat × Option MObj) → Prop
  | [], _ => True
  | (k, o) :: l, L => (o = none ∨ getO L k = o) ∧ SubL l L
theorem SubL.get : ∀ {l L : List (Nat × Option MObj)}, SubL l L → ∀ k o, getO l k = some o → getO L k = some o
  | [], _, _, s, x, h => by simp [getO] at h
  | (s', y) :: l, A, ⟨h1, h2⟩, s, x, h => by
    simp only [getO] at h
    split at h
    · rename_i e; have e' := beq_iff_eq.1 e; subst e'
      rcases h1 with h1 | h1
      · rw [h1] at h; cases h
      · rw [h1]; exact h
    · exact SubL.get h2 s x h

section
variable {P : Program} {Γ : Gd} {N : Nat} {Q : Exit → Act → World → Prop} {A A' : List (Nat × MV)} {L L' : List (Nat × Option MObj)}

theorem TL_ev (E : Env P) {ops : Array Oper} (n : Nat) {l l' : List Oper} {C : Prop} (h : evalN E.tab N ops n l A L = some (l', A', L', C)) (hC : C) (k : TL P Γ N ops Q l' A' L') : TL P Γ N ops Q l A L := evalN_ok E n h hC k
theorem TL_end {ops : Array Oper} (h : TE Γ N (Q .normal) A L) : TL P Γ N ops Q [] A L := fun a w hs => wpList_nil (h a w hs)
theorem TL_weak {ops : Array Oper} {l : List Oper} (hA : SubA A' A) (hL : SubL L' L) (h : TL P Γ N ops Q l A' L') : TL P Γ N ops Q l A L := fun a w hs => h a w (hs.weak hA.get hL.get)
theorem TC_weak {c : Code} (hA : SubA A' A) (hL : SubL L' L) (h : TC P Γ N c Q A' L') : TC P Γ N c Q A L := fun a w hs => h a w (hs.weak hA.get hL.get)

theorem TC_skip (h : TE Γ N (Q .normal) A L) : TC P Γ N .skip Q A L := fun a w hs => wp_skip (h a w hs)
theorem TC_seq {x y : Code} (h : TC P Γ N x (Exit.then (fun a w => y.wp P Q a w) Q) A L) : TC P Γ N (.seq x y) Q A L := fun a w hs => wp_seq (h a w hs)
theorem TE_go {c : Code} {Q' : Exit → Act → World → Prop} (h : TC P Γ N c Q A L) : TE Γ N (Exit.then (fun a w => c.wp P Q a w) Q' .normal) A L := h
theorem TC_mid {x y : Code} (J : Act → World → Prop) (h : TC P Γ N x (Exit.then J Q) A L) (h2 : ∀ a w, J a w → y.wp P Q a w) : TC P Γ N (.seq x y) Q A L := fun a w hs =>
  wp_seq (wp_mono (h a w hs) fun e a w q => by
    cases e with
    | normal => exact h2 a w q
    | _ => exact q)
theorem TC_reg {id : Nat} {l : List Oper} (h : TL P Γ N l.toArray Q l A L) : TC P Γ N (.region id l.toArray false) Q A L := fun a w hs => wp_region_lit (h a w hs)
theorem TC_cond {c : Operand} {x y : Code} {b : Bool} (hc : opd A c = some (.bool b)) (ht : b = true → TC P Γ N x Q A L) (hf : b = false → TC P Γ N y Q A L) : TC P Γ N (.cond c x y) Q A L := by
  intro a w hs
  obtain ⟨h1, h2, ρ, m, h3, h4⟩ := hs
  have := opd_ok (ρ := ρ) (m := m) (fun s x hx => h3 s x hx) hc
  simp only [Cv] at this
  refine wp_cond_split this (fun e => ht e a w ⟨h1, h2, ρ, m, h3, h4⟩) (fun e => hf e a w ⟨h1, h2, ρ, m, h3, h4⟩)
theorem TC_blk {id : Nat} {c : Code} (h : TC P Γ N c (Exit.inBlock id Q) A L) : TC P Γ N (.block id c) Q A L := fun a w hs => wp_block (h a w hs)
theorem TC_exit {id : Nat} (h : TE Γ N (Q (.exit id)) A L) : TC P Γ N (.exit id) Q A L := fun a w hs => wp_exit (h a w hs)
theorem TC_ret (h : TE Γ N (Q .ret) A L) : TC P Γ N .ret Q A L := fun a w hs => wp_ret (h a w hs)

/-- a family of symbolic states -/
def SP (Γ : Gd) (N : Nat) {α : Type} (p : α → Prop) (SA : α → List (Nat × MV)) (SL : α → List (Nat × Option MObj)) : Act → World → Prop := fun a w => ∃ x, p x ∧ Sat Γ N (get (SA x)) (getO (SL x)) a w
theorem SP_in {α : Type} {p : α → Prop} {SA : α → List (Nat × MV)} {SL : α → List (Nat × Option MObj)} (x : α) (hp : p x) (hA : SubA (SA x) A) (hL : SubL (SL x) L) : TE Γ N (SP Γ N p SA SL) A L :=
  fun _ _ hs => ⟨x, hp, hs.weak hA.get hL.get⟩
theorem TC_join {x y : Code} {α : Type} (p : α → Prop) (SA : α → List (Nat × MV)) (SL : α → List (Nat × Option MObj)) (h : TC P Γ N x (Exit.then (SP Γ N p SA SL) Q) A L) (h2 : ∀ z, p z → TC P Γ N y Q (SA z) (SL z)) : TC P Γ N (.seq x y) Q A L :=
  TC_mid _ h fun a w ⟨z, hp, hs⟩ => h2 z hp a w hs

/-- a loop; what is left of the rounds goes down -/
theorem TC_loop {c : Code} {α : Type} (p : Nat → α → Prop) (SA : α → List (Nat × MV)) (SL : α → List (Nat × Option MObj)) (n : Nat) (h0 : TE Γ N (SP Γ N (p n) SA SL) A L)
    (hr : ∀ n z, p n z → TC P Γ N c (Exit.then (fun a w => ∃ n', n' < n ∧ SP Γ N (p n') SA SL a w) Q) (SA z) (SL z)) : TC P Γ N (.loop c) Q A L := by
  intro a w hs b k cs
  have key : ∀ n a w, SP Γ N (p n) SA SL a w → ∃ e a' w', Q e a' w' ∧ Arrives P (lone (b.at a (.code c :: .inLoop c :: k)) cs w) b k cs e a' w' := by
    intro n
    induction n using Nat.strongRecOn with
    | _ n ih =>
      rintro a w ⟨z, hp, hz⟩
      obtain ⟨e, a₁, w₁, hq, harr⟩ := hr n z hp a w hz b (.inLoop c :: k) cs
      cases e with
      | normal =>
        obtain ⟨n', hlt, hI⟩ := hq
        obtain ⟨e₂, a₂, w₂, hq₂, harr₂⟩ := ih n' hlt a₁ w₁ hI
        exact ⟨e₂, a₂, w₂, hq₂, .of_steps (Steps.trans harr (.one step_inLoop)) harr₂⟩
      | exit id => exact ⟨_, a₁, w₁, hq, .pass (x := .inLoop c) rfl (fun _ _ => .inl (by simp)) harr⟩
      | goto l => exact ⟨_, a₁, w₁, hq, .pass (x := .inLoop c) rfl (fun _ _ => .inl (by simp)) harr⟩
      | ret => exact ⟨_, a₁, w₁, hq, .pass (x := .inLoop c) rfl (fun _ _ => .inl (by simp)) harr⟩
      | panic ch => exact ⟨_, a₁, w₁, hq, .pass (x := .inLoop c) rfl (fun _ _ => .inl (by simp)) harr⟩
      | outgrown => exact ⟨_, a₁, w₁, hq, .pass (x := .inLoop c) rfl (fun _ _ => .inl (by simp)) harr⟩
  obtain ⟨e, a', w', hq, harr⟩ := key n a w (h0 a w hs)
  exact ⟨e, a', w', hq, .of_steps (.one step_loop) harr⟩
/-- the next round -/
theorem TE_next {α : Type} {p : Nat → α → Prop} {SA : α → List (Nat × MV)} {SL : α → List (Nat × Option MObj)} {n : Nat} (n' : Nat) (hlt : n' < n) (x : α) (hp : p n' x) (hA : SubA (SA x) A) (hL : SubL (SL x) L) :
    TE Γ N (fun a w => ∃ n', n' < n ∧ SP Γ N (p n') SA SL a w) A L := fun _ _ hs => ⟨n', hlt, x, hp, hs.weak hA.get hL.get⟩

theorem TE_ret (E : Env P) {fn : Func} {res : MV} {Lc : List (Nat × Option MObj)} {C : Prop} (hr : resM E.tab A L fn.results.toList = some (res, C)) (hC : C) (hL : SubL Lc L) : TE Γ N (bodyPost P fn (FnPost Γ res Lc) .ret) A L := by
  rintro a w ⟨h1, h2, ρ, m, h3, h4, h5, h6⟩
  unfold resM at hr
  split at hr
  · rename_i xs D hx
    simp only [Option.some.injEq, Prod.mk.injEq] at hr; obtain ⟨rfl, rfl⟩ := hr
    obtain ⟨vs, hvs, hcs⟩ := resL_ok E h3 (fun k o hk => h4.obj k o hk) h4.mem hx hC
    have hlen := CvL.length hcs
    have hrun : (results fn a.tmps).run P w = .ok (if h : vs.toArray.size = 1 then vs.toArray[0] else .tuple vs.toArray) w := by
      rw [results_eq, run_bind', Array.mapM_eq_mapM_toList, run_map, hvs]; rfl
    refine ⟨h2, _, hrun, ρ, m, _, rfl, ?_, h4.weak hL.get, h5, h6⟩
    unfold tupM
    split
    · obtain ⟨v, us, rfl, hv, hus⟩ := hcs
      simp only [CvL] at hus; subst hus
      exact hv
    · rename_i hne
      rw [dif_neg (by
        intro e
        have : xs.length = 1 := by rw [← hlen]; simpa using e
        match xs, this with
        | [x], _ => exact hne x rfl)]
      exact ⟨vs, rfl, hcs⟩
  · cases hr
theorem TE_end (E : Env P) {fn : Func} {res : MV} {Lc : List (Nat × Option MObj)} {C : Prop} (hr : resM E.tab A L fn.results.toList = some (res, C)) (hC : C) (hL : SubL Lc L) : TE Γ N (bodyPost P fn (FnPost Γ res Lc) .normal) A L :=
  fun a w hs => TE_ret E hr hC hL a w hs
end

end Go.Fo
