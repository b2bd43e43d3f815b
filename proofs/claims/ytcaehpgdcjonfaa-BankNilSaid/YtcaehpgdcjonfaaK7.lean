/- Regions of open order: guards whose value is known on the way. -/
import Derived.Test.YtcaehpgdcjonfaaK6
namespace Go.Fo

theorem bif_split {α : Type} {b : Bool} {x y : Option α} {r : α} {G : Prop} (h : (bif b then x else y) = some r) (ht : b = true → x = some r → G) (hf : b = false → y = some r → G) : G := by
  cases b with
  | true => exact ht rfl h
  | false => exact hf rfl h

/-- a guarded operation, once it is known that its guard is met -/
def evalG (tab : Nat → Option TI) (N : Nat) (wk nk : List Nat) (o : Oper) (vA : List (Nat × MV)) (vL : List (Nat × Option MObj)) : Option (De × Prop) :=
  match o.dst with
  | some d => if d < N then (match pureD tab vA vL none o.op with
    | some (x, C) => some (([(d, x)], []), C)
    | none => (match heapD tab vA vL none (1000 + d) o.op with
      | some (x, U, fr, C) => if fr && nk.contains (1000 + d) && U.all (fun q => wk.contains q.1) then some (([(d, x)], U), C) else none
      | none => none)) else none
  | none => (match heapD tab vA vL none 1000 o.op with
    | some (_, U, fr, C) => if !fr && U.all (fun q => wk.contains q.1) then some (([], U), C) else none
    | none => none)

section
variable {P : Program} {Γ : Gd} {N : Nat} {Q : Exit → Act → World → Prop} {r : Rg}

theorem wpOp_want {i j dj : Nat} {o oj : Oper} {want b : Bool} (h : r.ops[i]? = some o) (hg : o.guard = some (j, want)) (hj : r.ops[j]? = some oj) (hdj : oj.dst = some dj) {vA : List (Nat × MV)} (hv : get vA dj = some (.bool b)) (hb : b = want)
    {Af : Nat → Option MV} {Lf : Nat → Option MObj} {a : Act} {w : World} (hA : ∀ s x, get vA s = some x → Af s = some x) (hs : Sat Γ N Af Lf a w) {K : Act → World → Prop} (hw : o.wp P a w K Q) : wpOp P r.ops Q i K a w := by
  subst hb
  obtain ⟨h1, h2, ρ, m, h3, _⟩ := hs
  obtain ⟨v, hv', hc⟩ := h3 dj _ (hA _ _ hv)
  simp only [Cv] at hc; subst hc
  unfold wpOp
  rw [h]
  have : Region.wanted o (yielded r.ops a.tmps) = true := by
    unfold Region.wanted
    rw [hg]
    simp only [yielded, hj, Option.bind_some, hdj]
    rw [hv']; cases b <;> rfl
  simp only [this, if_true]
  exact .inl hw

theorem evalG_ok (E : Env P) {vA : List (Nat × MV)} {vL : List (Nat × Option MObj)} {i j dj : Nat} {o oj : Oper} {want b : Bool} {δ : De} {C : Prop} (ho : r.ops[i]? = some o) (hg : o.guard = some (j, want)) (hj : r.ops[j]? = some oj) (hdj : oj.dst = some dj) (hv : get vA dj = some (.bool b)) (hb : b = want)
    (h : evalG E.tab N (r.wk i) (r.nk i) o vA vL = some (δ, C)) (hC : C) : OpAt P Γ N Q r vA vL δ i ∧ De.ok r i δ := by
  have hdst := dst_of ho
  unfold evalG at h
  split at h
  · rename_i d hd
    split at h
    case isFalse => cases h
    rename_i hdN
    have one : ∀ (x : MV) (s : Nat), hasK [(d, x)] s = true → r.dst i = some s := fun x s hs => by
      simp only [hasK, List.any_cons, List.any_nil, Bool.or_false, beq_iff_eq] at hs; subst hs; rw [hdst, hd]
    split at h
    · rename_i x D hp
      simp only [Option.some.injEq, Prod.mk.injEq] at h; obtain ⟨rfl, rfl⟩ := h
      refine ⟨fun Af Lf a w hA hL _ hs K hK => wpOp_want ho hg hj hdj hv hb hA hs (Oper.wp_mono (fun a1 w1 hs1 => hK a1 w1 ?_) (pure_sat E hA hL hp hC (fun d' e => by rw [hd] at e; cases e; exact hdN) hs Q)), one x, fun k hk => by simp [hasK] at hk⟩
      rw [hd] at hs1
      simp only [addsA_one]; exact hs1
    · split at h
      · rename_i x U fr D hp
        split at h
        · rename_i hc
          simp only [Bool.and_eq_true] at hc
          simp only [Option.some.injEq, Prod.mk.injEq] at h; obtain ⟨rfl, rfl⟩ := h
          have hnk : 1000 + d ∈ r.nk i := by simpa using hc.1.2
          refine ⟨fun Af Lf a w hA hL hf hs K hK => wpOp_want ho hg hj hdj hv hb hA hs (Oper.wp_mono (fun a1 w1 hs1 => hK a1 w1 ?_) (heap_sat E hA hL hp hC (fun d' e => by rw [hd] at e; cases e; exact hdN) (fun e => by rw [e] at hc; simp at hc) (fun _ => by omega) (fun _ k o hk _ => ((hf _ hnk).2 k o hk).1) (fun _ => (hf _ hnk).1) hs Q)), one x, hasK_all hc.2⟩
          rw [hd] at hs1
          simp only [addsA_one]; exact hs1
        · cases h
      · cases h
  · rename_i hd
    split at h
    · rename_i x U fr D hp
      split at h
      · rename_i hc
        simp only [Bool.and_eq_true, Bool.not_eq_true'] at hc
        simp only [Option.some.injEq, Prod.mk.injEq] at h; obtain ⟨rfl, rfl⟩ := h
        refine ⟨fun Af Lf a w hA hL hf hs K hK => wpOp_want ho hg hj hdj hv hb hA hs (Oper.wp_mono (fun a1 w1 hs1 => hK a1 w1 ?_) (heap_sat E hA hL hp hC (fun d' e => by rw [hd] at e; cases e) (fun _ => hd) (fun e => by rw [hc.1] at e; cases e) (fun e => by rw [hc.1] at e; cases e) (fun e => by rw [hc.1] at e; cases e) hs Q)), fun s hs => by simp [hasK] at hs, hasK_all hc.2⟩
        rw [hd] at hs1
        simp only [addsA_nil]; exact hs1
      · cases h
    · cases h

theorem callG_ok {vA : List (Nat × MV)} {vL : List (Nat × Option MObj)} {i j dj : Nat} {o oj : Oper} {want b : Bool} {f : FuncId} {xs ys : List MV} {Lc Lc' : List (Nat × Option MObj)} {res : MV} {C : Prop} (π : List (Nat × Nat)) (ho : r.ops[i]? = some o) (hg : o.guard = some (j, want)) (hj : r.ops[j]? = some oj) (hdj : oj.dst = some dj) (hv : get vA dj = some (.bool b)) (hb : b = want)
    (hF : Fn P f xs Lc res Lc') (h : calleeM vA o.op = some (f, ys, C)) (hC : C) (hf : fnb P f = true) (hys : ys = MV.renL (sg π) xs) (hsub : SubL (renO (sg π) Lc) vL) (hc : callAB (sg π) N o.dst true (r.wk i) (r.nk i) Lc Lc' res = true) :
    OpAt P Γ N Q r vA vL (addL o.dst (res.ren (sg π)) [], renO (sg π) Lc') i ∧ De.ok r i (addL o.dst (res.ren (sg π)) [], renO (sg π) Lc') := by
  simp only [callAB, Bool.and_eq_true, List.all_eq_true, List.contains_iff_mem, Bool.or_eq_true, decide_eq_true_eq, Bool.not_eq_true', true_and] at hc
  obtain ⟨⟨⟨⟨⟨b2, b3⟩, b4⟩, b5⟩, b6⟩, b7⟩ := hc
  have hd : ∀ d, o.dst = some d → d < N := fun d e => by rw [e] at b2; simpa using b2
  have hnew : ∀ k ∈ keysO Lc', 1000 ≤ k → 1000 ≤ sg π k ∧ k ∉ keysO Lc ∧ sg π k ∈ r.nk i := fun k hk hge => by
    rcases b6 k hk with b | ⟨⟨c1, c2⟩, c3⟩
    · omega
    · exact ⟨c1, fun e => (by rw [List.contains_iff_mem.2 e] at c2; cases c2), c3⟩
  refine ⟨fun Af Lf a w hA hL hf2 hs K hK => wpOp_want ho hg hj hdj hv hb hA hs (Oper.wp_mono (fun a1 w1 hs1 => hK a1 w1 ?_) (callop_sat hA hF h hC hf (sg π) hys (fun k oc hk => hL _ _ (hsub.get _ _ (getO_ren (fun a ha b hb => injB_ok b4 a (b3 a ha) b (b3 b hb)) k oc hk))) b3 (injB_ok b4) (tldB_ok b5)
    (fun k hk hge => by
      obtain ⟨g1, g2, g3⟩ := hnew k hk hge
      exact ⟨g1, g2, (hf2 _ g3).1, (hf2 _ g3).2⟩) hd hs)), fun s hs => ?_, fun k hk => ?_⟩
  · have : addsA (addL o.dst (res.ren (sg π)) []) Af = addA o.dst (res.ren (sg π)) Af := by
      cases o.dst with
      | none => exact addsA_nil Af
      | some d => exact addsA_one d _ Af
    rw [this]; exact hs1
  · rw [dst_of ho]
    cases hdd : o.dst with
    | none => rw [hdd] at hs; simp [addL, hasK] at hs
    | some d => rw [hdd] at hs; simp only [addL, hasK, List.any_cons, List.any_nil, Bool.or_false, beq_iff_eq] at hs; rw [hs]
  · simp only [hasK, renO, List.any_map, List.any_eq_true, Function.comp, beq_iff_eq] at hk
    obtain ⟨q, hq, rfl⟩ := hk
    exact b7 q.1 (by simp only [keysO, List.mem_map]; exact ⟨q, hq, rfl⟩)

theorem skipG_ok (x : MV) {vA : List (Nat × MV)} {vL : List (Nat × Option MObj)} {i j dj d : Nat} {o oj : Oper} {want b : Bool} (ho : r.ops[i]? = some o) (hg : o.guard = some (j, want)) (hj : r.ops[j]? = some oj) (hdj : oj.dst = some dj) (hv : get vA dj = some (.bool b)) (hb : b = !want) (hd : o.dst = some d) (hdN : d < N) :
    OpAt P Γ N Q r vA vL ([(d, .cnd false x)], []) i ∧ De.ok r i ([(d, .cnd false x)], []) := by
  subst hb
  refine ⟨fun Af Lf a w hA hL _ hs K hK => ?_, fun s hs => ?_, fun k hk => by simp [hasK] at hk⟩
  · have hs' := hs
    obtain ⟨h1, h2, ρ, m, h3, h4, h5, h6⟩ := hs
    obtain ⟨v, hv', hc⟩ := h3 dj _ (hA _ _ hv)
    simp only [Cv] at hc; subst hc
    unfold wpOp
    rw [ho]
    have : Region.wanted o (yielded r.ops a.tmps) = false := by
      unfold Region.wanted
      rw [hg]
      simp only [yielded, hj, Option.bind_some, hdj]
      rw [hv']; cases want <;> rfl
    simp only [this, Bool.false_eq_true, if_false, hd]
    refine hK _ _ ⟨by rw [put_size]; exact h1, by rw [put_defers]; exact h2, ρ, m, fun s y hy => ?_, h4, h5, h6⟩
    rw [addsA_one] at hy
    have hc : Cv ρ m (.cnd false x) undef := ⟨fun e => (by cases e), fun _ => rfl⟩
    exact slots_put (Mle.refl m) (ρ' := ρ) h3 (v := undef) (x := .cnd false x) (dst := some d) (fun d' e => by cases e; rw [h1]; exact hdN) (fun _ => hc) (fun _ _ _ _ _ => rfl) s y hy
  · simp only [hasK, List.any_cons, List.any_nil, Bool.or_false, beq_iff_eq] at hs
    rw [dst_of ho, hd, hs]

variable {A : List (Nat × MV)} {L : List (Nat × Option MObj)} {G : Prop} {ex : Nat → List Nat} {l : List De} {n j dj : Nat} {o oj : Oper} {want b : Bool}

theorem AJR_gev (E : Env P) {δ : De} {C : Prop} (n' : Nat) (hn' : n' = n + 1) (hn : n < r.ops.size) (hb : b = want) (ho : r.ops[n]? = some o) (hg : o.guard = some (j, want)) (hj : r.ops[j]? = some oj) (hdj : oj.dst = some dj) (hv : get (viewA2 r (fnR n l) A n) dj = some (.bool b))
    (h : evalG E.tab N (r.wk n) (r.nk n) o (viewA2 r (fnR n l) A n) (viewL2 r ex (fnR n l) L n) = some (δ, C)) (hC : C) (k : AJR P Γ N Q r ex A L G n' (δ :: l)) : AJR P Γ N Q r ex A L G n l := by
  subst hn'; exact AJR_step hn (evalG_ok E ho hg hj hdj hv hb h hC) k
theorem AJR_gcall {f : FuncId} {xs ys : List MV} {Lc Lc' : List (Nat × Option MObj)} {res : MV} {C : Prop} (n' : Nat) (hn' : n' = n + 1) (hn : n < r.ops.size) (hb : b = want) (π : List (Nat × Nat)) (ho : r.ops[n]? = some o) (hg : o.guard = some (j, want)) (hj : r.ops[j]? = some oj) (hdj : oj.dst = some dj) (hv : get (viewA2 r (fnR n l) A n) dj = some (.bool b))
    (hF : Fn P f xs Lc res Lc') (hf : fnb P f = true) (h : calleeM (viewA2 r (fnR n l) A n) o.op = some (f, ys, C)) (hC : C) (hys : ys = MV.renL (sg π) xs) (hsub : SubL (renO (sg π) Lc) (viewL2 r ex (fnR n l) L n)) (hc : callAB (sg π) N o.dst true (r.wk n) (r.nk n) Lc Lc' res = true)
    (k : AJR P Γ N Q r ex A L G n' ((addL o.dst (res.ren (sg π)) [], renO (sg π) Lc') :: l)) : AJR P Γ N Q r ex A L G n l := by
  subst hn'; exact AJR_step hn (callG_ok π ho hg hj hdj hv hb hF h hC hf hys hsub hc) k
theorem AJR_gskip (x : MV) {d : Nat} (n' : Nat) (hn' : n' = n + 1) (hn : n < r.ops.size) (hb : b = !want) (ho : r.ops[n]? = some o) (hg : o.guard = some (j, want)) (hj : r.ops[j]? = some oj) (hdj : oj.dst = some dj) (hv : get (viewA2 r (fnR n l) A n) dj = some (.bool b)) (hd : o.dst = some d) (hdN : d < N)
    (k : AJR P Γ N Q r ex A L G n' (([(d, .cnd false x)], []) :: l)) : AJR P Γ N Q r ex A L G n l := by
  subst hn'; exact AJR_step hn (skipG_ok x ho hg hj hdj hv hb hd hdN) k
end

end Go.Fo
