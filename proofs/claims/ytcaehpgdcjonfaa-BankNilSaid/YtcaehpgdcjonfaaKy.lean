/- Regions whose order is open: the theorem. -/
import Derived.Test.YtcaehpgdcjonfaaKx
namespace Go.Fo

theorem Rg.edges {r : Rg} (h : r.ok = true) {i : Nat} (hi : i < r.ops.size) : (∀ e ∈ r.ons i, e < i ∧ e ∈ r.pre i) ∧ (∀ j ∈ r.pre i, j < i ∧ (j ∈ r.ons i ∨ ∃ e ∈ r.ons i, j ∈ r.pre e)) ∧ (r.pre i).Pairwise (· > ·) ∧
    ∀ j, j < r.ops.size → i ≠ j → (∀ d, r.dst i = some d → r.dst j ≠ some d) ∧ (r.unord i j = true → ∀ k ∈ r.wk i, k ∉ r.wk j) := by
  unfold Rg.ok at h
  rw [List.all_eq_true] at h
  have := h i (List.mem_range.2 hi)
  simp only [Bool.and_eq_true, List.all_eq_true, decide_eq_true_eq, List.contains_iff_mem, List.any_eq_true, Bool.or_eq_true, List.mem_range, beq_iff_eq, bne_iff_ne, Bool.not_eq_true'] at this
  obtain ⟨⟨⟨h1, h2⟩, h3⟩, h4⟩ := this
  refine ⟨h1, h2, h3, fun j hj hne => ?_⟩
  rcases h4 j hj with h4 | ⟨h4, h5⟩
  · exact absurd h4 hne
  · refine ⟨fun d hd hd' => ?_, fun hu k hk hk' => ?_⟩
    · rcases h4 with h4 | h4
      · rw [h4] at hd; cases hd
      · exact h4 (by rw [hd, hd'])
    · rcases h5 with h5 | h5
      · rw [h5] at hu; cases hu
      · have := h5 k hk
        rw [List.contains_eq_mem, decide_eq_false_iff_not] at this
        exact this hk'

def Closed (r : Rg) (ls : Nat → Bool) : Prop := ∀ i, ls i = true → i < r.ops.size ∧ ∀ j ∈ r.pre i, ls j = true

/-- what is owed of what the operations add -/
structure DsOK (r : Rg) (ds : Nat → De) (A : List (Nat × MV)) (L : List (Nat × Option MObj)) : Prop where
  slot : ∀ i, i < r.ops.size → ∀ s, hasK (ds i).1 s = true → r.dst i = some s
  keys : ∀ i, i < r.ops.size → ∀ k, hasK (ds i).2 k = true → k ∈ r.wk i
  fr0 : ∀ i, i < r.ops.size → ∀ kd ∈ r.nk i, freshA kd A = true ∧ freshL kd L = true
  fr : ∀ i, i < r.ops.size → ∀ kd ∈ r.nk i, ∀ j, j < r.ops.size → j ≠ i → i ∉ r.pre j → freshA kd (ds j).1 = true ∧ freshL kd (ds j).2 = true

theorem step_any {P : Program} {Γ : Gd} {N : Nat} {Q : Exit → Act → World → Prop} {r : Rg} (hr : r.ok = true) {ds : Nat → De} {A : List (Nat × MV)} {L : List (Nat × Option MObj)} (hd : DsOK r ds A L) {ls : Nat → Bool} (hc : Closed r ls) {i : Nat} (hi : i < r.ops.size) (hni : ls i = false) (hpre : ∀ j ∈ r.pre i, ls j = true)
    (hok : OpOK P Γ N Q r ds A L i) {a : Act} {w : World} (hs : Sat Γ N (lkA r.ops.size ds A ls) (lkL r.ops.size ds L ls) a w) (K : Act → World → Prop)
    (hK : ∀ a w, Sat Γ N (lkA r.ops.size ds A (fun q => q == i || ls q)) (lkL r.ops.size ds L (fun q => q == i || ls q)) a w → K a w) : wpOp P r.ops Q i K a w := by
  have hun : ∀ j, ls j = true → j ∉ r.pre i → r.unord i j = true ∧ i ∉ r.pre j ∧ j ≠ i := by
    intro j hj hjp
    have h1 : i ∉ r.pre j := fun hm => by rw [(hc j hj).2 i hm] at hni; cases hni
    have h2 : j ≠ i := fun e => by rw [e, hni] at hj; cases hj
    refine ⟨?_, h1, h2⟩
    simp only [Rg.unord, Bool.and_eq_true, bne_iff_ne, Bool.not_eq_true', List.contains_eq_mem, decide_eq_false_iff_not]
    exact ⟨⟨fun e => h2 e.symm, hjp⟩, h1⟩
  have hex : ∀ j k, ls j = true → hasK (ds j).2 k = true → r.excl i k = false → j ∈ r.pre i := by
    intro j k hj hk he
    refine Classical.byContradiction fun hjp => ?_
    have hjn := (hc j hj).1
    have : r.excl i k = true := by
      simp only [Rg.excl, List.any_eq_true, List.mem_range, Bool.and_eq_true, List.contains_iff_mem]
      exact ⟨j, hjn, (hun j hj hjp).1, hd.keys j hjn k hk⟩
    rw [this] at he; cases he
  refine hok _ _ a w (fun s x hx => ?_) (fun k o hk => ?_) (fun kd hkd => ?_) hs K (fun a1 w1 hs1 => hK a1 w1 (hs1.weak (fun s x hx => ?_) (fun k o hk => ?_)))
  · -- slots that are shown
    rw [viewA, get_app] at hx
    split at hx
    · obtain ⟨j, hj, hjs⟩ := get_flat hx
      have hjl := hpre j hj
      have hjn := (hc j hjl).1
      have : srch (fun q => ls q && hasK (ds q).1 s) r.ops.size = some j := by
        refine srch_eq hjn (by simp [hjl, get_hasK hjs]) (fun q hq hqs => ?_)
        simp only [Bool.and_eq_true] at hqs
        have e1 := hd.slot q hq s hqs.2
        have e2 := hd.slot j hjn s (get_hasK hjs)
        by_cases e : q = j
        · omega
        · exact absurd e2 (((r.edges hr hq).2.2.2 j hjn e).1 s e1)
      rw [lkA, this]; exact hjs
    · rename_i hno
      cases hisd : r.uisd i s with
      | true => rw [get_filter_none (p := fun q => !(r.uisd i q)) (by simp [hisd])] at hx; cases hx
      | false =>
        rw [get_filter (p := fun q => !(r.uisd i q)) (by simp [hisd])] at hx
        have : srch (fun q => ls q && hasK (ds q).1 s) r.ops.size = none := by
          cases hq : srch (fun q => ls q && hasK (ds q).1 s) r.ops.size with
          | none => rfl
          | some q =>
            obtain ⟨g1, g2, _⟩ := srch_some hq
            simp only [Bool.and_eq_true] at g2
            have : r.uisd i s = true := by
              by_cases hp : q ∈ r.pre i
              · exact absurd (hasK_flat.2 ⟨q, hp, g2.2⟩) hno
              · simp only [Rg.uisd, List.any_eq_true, List.mem_range, beq_iff_eq, Bool.and_eq_true]
                exact ⟨q, g1, (hun q g2.1 hp).1, hd.slot q g1 s g2.2⟩
            rw [this] at hisd; cases hisd
        rw [lkA, this]; exact hx
  · -- objects that are shown
    rw [viewL] at hk
    cases hek : r.excl i k with
    | true => rw [getO_filter_none (p := fun q => !(r.excl i q)) (by simp [hek])] at hk; cases hk
    | false =>
      rw [getO_filter (p := fun q => !(r.excl i q)) (by simp [hek]), getO_app] at hk
      split at hk
      · rename_i hh
        obtain ⟨j, hj, hjk, he, hmax⟩ := getO_flat (r.edges hr hi).2.2.1 hh
        have hjl := hpre j hj
        have : srch (fun q => ls q && hasK (ds q).2 k) r.ops.size = some j := by
          refine srch_eq (hc j hjl).1 (by simp [hjl, hjk]) (fun q hq hqs => ?_)
          simp only [Bool.and_eq_true] at hqs
          exact hmax q (hex q k hqs.1 hqs.2 hek) hqs.2
        rw [he] at hk
        rw [lkL, this]; exact hk
      · rename_i hh
        have : srch (fun q => ls q && hasK (ds q).2 k) r.ops.size = none := by
          cases hq : srch (fun q => ls q && hasK (ds q).2 k) r.ops.size with
          | none => rfl
          | some q =>
            obtain ⟨g1, g2, _⟩ := srch_some hq
            simp only [Bool.and_eq_true] at g2
            exact absurd (hasK_flatO.2 ⟨q, hex q k g2.1 g2.2 hek, g2.2⟩) hh
        rw [lkL, this]; exact hk
  · -- new keys
    have h0 := hd.fr0 i hi kd hkd
    have hj : ∀ q, q < r.ops.size → ls q = true → freshA kd (ds q).1 = true ∧ freshL kd (ds q).2 = true := fun q hq hl =>
      hd.fr i hi kd hkd q hq (fun e => by rw [e, hni] at hl; cases hl) (fun hm => by rw [(hc q hl).2 i hm] at hni; cases hni)
    refine ⟨fun s x hx => ?_, fun k o hk => ?_⟩
    · unfold lkA at hx
      split at hx
      · rename_i q hq
        obtain ⟨g1, g2, _⟩ := srch_some hq
        simp only [Bool.and_eq_true] at g2
        exact freshA_ok (hj q g1 g2.1).1 s x hx
      · exact freshA_ok h0.1 s x hx
    · unfold lkL at hk
      split at hk
      · rename_i q hq
        obtain ⟨g1, g2, _⟩ := srch_some hq
        simp only [Bool.and_eq_true] at g2
        exact freshL_ok (hj q g1 g2.1).2 k o hk
      · exact freshL_ok h0.2 k o hk
  · -- slots behind it
    unfold lkA at hx
    unfold addsA
    by_cases hs : hasK (ds i).1 s = true
    · rw [if_pos hs]
      have : srch (fun q => (q == i || ls q) && hasK (ds q).1 s) r.ops.size = some i := by
        refine srch_eq hi (by simp [hs]) (fun q hq hqs => ?_)
        simp only [Bool.and_eq_true] at hqs
        have e1 := hd.slot q hq s hqs.2
        have e2 := hd.slot i hi s hs
        by_cases e : q = i
        · omega
        · exact absurd e2 (((r.edges hr hq).2.2.2 i hi e).1 s e1)
      rw [this] at hx; exact hx
    · rw [if_neg hs]
      have hs' : hasK (ds i).1 s = false := by simpa using hs
      have e0 : (fun q => (q == i || ls q) && hasK (ds q).1 s) = fun q => ls q && hasK (ds q).1 s := by
        funext q
        by_cases e : q = i
        · rw [e, hs', Bool.and_false, Bool.and_false]
        · rw [show (q == i) = false by simpa using e, Bool.false_or]
      have : srch (fun q => (q == i || ls q) && hasK (ds q).1 s) r.ops.size = srch (fun q => ls q && hasK (ds q).1 s) r.ops.size := by rw [e0]
      rw [this] at hx; exact hx
  · -- objects behind it
    have updk : ∀ (U : List (Nat × Option MObj)) (M : Nat → Option MObj), updO U M k = if hasK U k then getO U k else M k := by
      intro U M
      induction U with
      | nil => rfl
      | cons q U ih =>
        obtain ⟨k', o'⟩ := q
        by_cases e : (k' == k) = true
        · have h0 : hasK ((k', o') :: U) k = true := by simp [hasK, e]
          rw [if_pos h0, updO, getO, if_pos e, if_pos e]
        · have e' : (k' == k) = false := by simpa using e
          have h0 : hasK ((k', o') :: U) k = hasK U k := by simp [hasK, e']
          rw [h0, updO, getO, if_neg e, if_neg e, ih]
    unfold lkL at hk
    rw [updk]
    by_cases hs : hasK (ds i).2 k = true
    · rw [if_pos hs]
      have : srch (fun q => (q == i || ls q) && hasK (ds q).2 k) r.ops.size = some i := by
        refine srch_eq hi (by simp [hs]) (fun q hq hqs => ?_)
        simp only [Bool.and_eq_true, Bool.or_eq_true, beq_iff_eq] at hqs
        rcases hqs.1 with e | hl
        · omega
        · by_cases hqp : q ∈ r.pre i
          · exact Nat.le_of_lt ((r.edges hr hi).2.1 q hqp).1
          · have hu := hun q hl hqp
            exact absurd (hd.keys q hq k hqs.2) (((r.edges hr hi).2.2.2 q hq (fun e => hu.2.2 e.symm)).2 hu.1 k (hd.keys i hi k hs))
      rw [this] at hk; exact hk
    · rw [if_neg hs]
      have hs' : hasK (ds i).2 k = false := by simpa using hs
      have e0 : (fun q => (q == i || ls q) && hasK (ds q).2 k) = fun q => ls q && hasK (ds q).2 k := by
        funext q
        by_cases e : q = i
        · rw [e, hs', Bool.and_false, Bool.and_false]
        · rw [show (q == i) = false by simpa using e, Bool.false_or]
      have : srch (fun q => (q == i || ls q) && hasK (ds q).2 k) r.ops.size = srch (fun q => ls q && hasK (ds q).2 k) r.ops.size := by rw [e0]
      rw [this] at hk; exact hk

theorem getD_ft {listed : Array Bool} {i : Nat} (hi : i < listed.size) : listed.getD i true = listed.getD i false := by
  simp [hi]

theorem any_wp {P : Program} {Γ : Gd} {N : Nat} {Q : Exit → Act → World → Prop} {r : Rg} (hr : r.ok = true) {ds : Nat → De} {A : List (Nat × MV)} {L : List (Nat × Option MObj)} (hd : DsOK r ds A L) (hok : ∀ i, i < r.ops.size → OpOK P Γ N Q r ds A L i)
    (fin : ∀ a w, Sat Γ N (lkA r.ops.size ds A (fun q => decide (q < r.ops.size))) (lkL r.ops.size ds L (fun q => decide (q < r.ops.size))) a w → Q .normal a w) : ∀ (fuel : Nat) (listed : Array Bool) (a : Act) (w : World), listed.size = r.ops.size → Closed r (fun q => listed.getD q false) →
    Sat Γ N (lkA r.ops.size ds A (fun q => listed.getD q false)) (lkL r.ops.size ds L (fun q => listed.getD q false)) a w → (listed.toList.filter (· == false)).length ≤ fuel → wpAny P .any r.ops Q fuel listed a w := by
  have done : ∀ (listed : Array Bool) (a : Act) (w : World), listed.size = r.ops.size → Region.ready .any r.ops listed = [] →
      Sat Γ N (lkA r.ops.size ds A (fun q => listed.getD q false)) (lkL r.ops.size ds L (fun q => listed.getD q false)) a w → Q .normal a w := by
    intro listed a w hsz hrd hs
    have hall : ∀ i, i < r.ops.size → listed.getD i false = true := by
      intro i
      induction i using Nat.strongRecOn with
      | _ i ih =>
        intro hi
        refine Classical.byContradiction fun hno => ?_
        have hmem : i ∈ Region.ready .any r.ops listed := by
          rw [mem_ready]
          refine ⟨by rw [getD_ft (by omega)]; simpa using hno, r.ops[i], Array.getElem?_eq_getElem hi, fun e he hb => ?_⟩
          have hon : e.on ∈ r.ons i := by
            unfold Rg.ons
            rw [Array.getElem?_eq_getElem hi]
            simp only [List.mem_map, List.mem_filter]
            exact ⟨e, ⟨by simpa using he, hb⟩, rfl⟩
          have := ((r.edges hr hi).1 e.on hon).1
          exact ih e.on this (by omega)
        rw [hrd] at hmem; cases hmem
    have e : (fun q => listed.getD q false) = fun q => decide (q < r.ops.size) := by
      funext q
      by_cases h : q < r.ops.size
      · rw [hall q h]; simp [h]
      · simp only [h, decide_false]
        simp [show ¬ q < listed.size by omega]
    rw [e] at hs
    exact fin a w hs
  intro fuel
  induction fuel with
  | zero =>
    intro listed a w hsz hc hs hf
    have hnil : Region.ready .any r.ops listed = [] := by
      cases hrd : Region.ready .any r.ops listed with
      | nil => rfl
      | cons i l =>
        have hm : i ∈ Region.ready .any r.ops listed := by rw [hrd]; simp
        rw [mem_ready] at hm
        obtain ⟨h1, o, ho, _⟩ := hm
        have hi : i < listed.size := by rw [hsz]; exact (Array.getElem?_eq_some_iff.1 ho).1
        have : (false : Bool) ∈ listed.toList.filter (· == false) := by
          rw [List.mem_filter]
          refine ⟨?_, rfl⟩
          have h2 : listed[i] = false := by simpa [hi] using h1
          rw [← h2]; simp
        have := List.length_pos_of_mem this
        omega
    exact ⟨hnil, done listed a w hsz hnil hs⟩
  | succ fuel ih =>
    intro listed a w hsz hc hs hf
    refine ⟨fun hnil => done listed a w hsz hnil hs, fun i hm => ?_⟩
    rw [mem_ready] at hm
    obtain ⟨h1, o, ho, hed⟩ := hm
    have hi : i < r.ops.size := (Array.getElem?_eq_some_iff.1 ho).1
    have hil : i < listed.size := by omega
    have hni : listed.getD i false = false := by rw [← getD_ft hil]; exact h1
    have hons : ∀ e ∈ r.ons i, listed.getD e false = true := by
      intro e he
      unfold Rg.ons at he
      rw [ho] at he
      simp only [List.mem_map, List.mem_filter] at he
      obtain ⟨ed, ⟨hed1, hed2⟩, rfl⟩ := he
      exact hed ed (by simpa using hed1) hed2
    have hpre : ∀ j ∈ r.pre i, listed.getD j false = true := by
      intro j hj
      rcases ((r.edges hr hi).2.1 j hj).2 with h | ⟨e, he, hje⟩
      · exact hons j h
      · exact (hc e (hons e he)).2 j hje
    have hls : (fun q => (listed.setIfInBounds i true).getD q false) = fun q => q == i || listed.getD q false := by
      funext q
      by_cases e : q = i
      · subst e; simp [hil]
      · rw [getD_set_ne false (fun x => e x.symm)]; simp [e]
    refine step_any hr hd hc hi hni hpre (hok i hi) hs _ (fun a1 w1 hs1 => ih _ a1 w1 (by simpa using hsz) ?_ ?_ ?_)
    · rw [hls]
      intro q hq
      simp only [Bool.or_eq_true, beq_iff_eq] at hq
      rcases hq with rfl | hq
      · exact ⟨hi, fun j hj => by simp [hpre j hj]⟩
      · exact ⟨(hc q hq).1, fun j hj => by simp [(hc q hq).2 j hj]⟩
    · rw [hls]; exact hs1
    · have hcount : ∀ (l : List Bool) (i : Nat), l[i]? = some false → ((l.set i true).filter (· == false)).length + 1 = (l.filter (· == false)).length := by
        intro l
        induction l with
        | nil => intro i h; simp at h
        | cons b l ih2 =>
          intro i h
          cases i with
          | zero => simp at h; subst h; simp
          | succ i =>
            have := ih2 i (by simpa using h)
            simp only [List.set_cons_succ, List.filter_cons]
            split
            · simp only [List.length_cons]; omega
            · exact this
      have := hcount listed.toList i (by
        have h2 : listed[i] = false := by simpa [hil] using hni
        simp [hil, h2])
      simp only [Array.toList_setIfInBounds]
      omega

/-- all that a drawn region adds -/
def allA (n : Nat) (ds : Nat → De) (A : List (Nat × MV)) : List (Nat × MV) := (List.range n).foldl (fun acc i => (ds i).1 ++ acc) A
def allL (n : Nat) (ds : Nat → De) (L : List (Nat × Option MObj)) : List (Nat × Option MObj) := (List.range n).foldl (fun acc i => (ds i).2 ++ acc) L

theorem allA_lk (ds : Nat → De) (A : List (Nat × MV)) : ∀ n, get (allA n ds A) = lkA n ds A (fun q => decide (q < n)) := by
  intro n
  induction n with
  | zero => rfl
  | succ n ih =>
    funext s
    have : allA (n + 1) ds A = (ds n).1 ++ allA n ds A := by simp [allA, List.range_succ]
    rw [this, get_app, ih]
    unfold lkA
    rw [srch_succ]
    have hsub : srch (fun j => decide (j < n + 1) && hasK (ds j).1 s) n = srch (fun j => decide (j < n) && hasK (ds j).1 s) n := by
      have key : ∀ k, k ≤ n → srch (fun j => decide (j < n + 1) && hasK (ds j).1 s) k = srch (fun j => decide (j < n) && hasK (ds j).1 s) k := by
        intro k
        induction k with
        | zero => intro _; rfl
        | succ k ihk =>
          intro hk
          rw [srch_succ, srch_succ, ihk (by omega), show decide (k < n + 1) = decide (k < n) by simp; omega]
      exact key n (Nat.le_refl _)
    by_cases h : hasK (ds n).1 s = true
    · simp [h]
    · have h' : hasK (ds n).1 s = false := by simpa using h
      rw [hsub, h', Bool.and_false]; rfl
theorem allL_lk (ds : Nat → De) (L : List (Nat × Option MObj)) : ∀ n, getO (allL n ds L) = lkL n ds L (fun q => decide (q < n)) := by
  intro n
  induction n with
  | zero => rfl
  | succ n ih =>
    funext s
    have : allL (n + 1) ds L = (ds n).2 ++ allL n ds L := by simp [allL, List.range_succ]
    rw [this, getO_app, ih]
    unfold lkL
    rw [srch_succ]
    have hsub : srch (fun j => decide (j < n + 1) && hasK (ds j).2 s) n = srch (fun j => decide (j < n) && hasK (ds j).2 s) n := by
      have key : ∀ k, k ≤ n → srch (fun j => decide (j < n + 1) && hasK (ds j).2 s) k = srch (fun j => decide (j < n) && hasK (ds j).2 s) k := by
        intro k
        induction k with
        | zero => intro _; rfl
        | succ k ihk =>
          intro hk
          rw [srch_succ, srch_succ, ihk (by omega), show decide (k < n + 1) = decide (k < n) by simp; omega]
      exact key n (Nat.le_refl _)
    by_cases h : hasK (ds n).2 s = true
    · simp [h]
    · have h' : hasK (ds n).2 s = false := by simpa using h
      rw [hsub, h', Bool.and_false]; rfl

theorem getD_rep (n i : Nat) : (Array.replicate n false).getD i false = false := by
  unfold Array.getD
  split <;> simp

theorem TC_any {P : Program} {Γ : Gd} {N : Nat} {Q : Exit → Act → World → Prop} {r : Rg} (hm : P.follows .mixedOrders = true) (hr : r.ok = true) {ds : Nat → De} {A : List (Nat × MV)} {L : List (Nat × Option MObj)} (hd : DsOK r ds A L) (hok : ∀ i, i < r.ops.size → OpOK P Γ N Q r ds A L i) {id : Nat}
    (fin : TE Γ N (Q .normal) (allA r.ops.size ds A) (allL r.ops.size ds L)) : TC P Γ N (.region id r.ops true) Q A L := by
  intro a w hs
  refine wp_region_any hm (any_wp hr hd hok (fun a1 w1 hs1 => fin a1 w1 (by rw [allA_lk, allL_lk]; exact hs1)) r.ops.size _ a _ (by simp) ?_ ?_ ?_)
  · intro i hi
    have hi' := (getD_rep r.ops.size i).symm.trans hi
    cases hi'
  · obtain ⟨h1, h2, ρ, m, h3, h4, h5, h6⟩ := hs
    have e1 : lkA r.ops.size ds A (fun q => (Array.replicate r.ops.size false).getD q false) = get A := by
      funext s
      unfold lkA
      have : srch (fun j => (Array.replicate r.ops.size false).getD j false && hasK (ds j).1 s) r.ops.size = none := by
        cases h : srch (fun j => (Array.replicate r.ops.size false).getD j false && hasK (ds j).1 s) r.ops.size with
        | none => rfl
        | some q =>
          have := (srch_some h).2.1
          simp only [getD_rep, Bool.false_and, reduceCtorEq] at this
      rw [this]
    have e2 : lkL r.ops.size ds L (fun q => (Array.replicate r.ops.size false).getD q false) = getO L := by
      funext s
      unfold lkL
      have : srch (fun j => (Array.replicate r.ops.size false).getD j false && hasK (ds j).2 s) r.ops.size = none := by
        cases h : srch (fun j => (Array.replicate r.ops.size false).getD j false && hasK (ds j).2 s) r.ops.size with
        | none => rfl
        | some q =>
          have := (srch_some h).2.1
          simp only [getD_rep, Bool.false_and, reduceCtorEq] at this
      rw [this]
    rw [e1, e2]
    exact ⟨h1, h2, ρ, m, h3, ⟨h4.mem, fun k o hk => osat.mono (Mle.refl m) (fun _ _ => rfl) rfl (fun _ _ => rfl) (h4.obj k o hk), h4.dj, h4.djm, h4.djX, h4.lt⟩, ⟨h5.le, h5.nm, h5.un, h5.size, h5.os, h5.out, h5.tape⟩, h6⟩
  · simp

end Go.Fo
