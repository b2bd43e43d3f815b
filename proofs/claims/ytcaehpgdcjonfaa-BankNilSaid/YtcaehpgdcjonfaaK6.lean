/- From a law's contract to what is asked: the result is true, what was there reads as it did. -/
import Derived.Test.YtcaehpgdcjonfaaK5
import Derived.ChangeSame
import Derived.ReadAgain
import Derived.RowKit3
namespace Go.Fo
open Go.RowKit

theorem size_of_get {W : World} {b : Nat} (h : ¬ b < W.heap.size) : W.heap[b]? = none := Array.getElem?_eq_none (by omega)

section
variable {H : Type} {enc : TypeId × Value → H} {P : Program}

/-- what was there is there as it was -/
structure Old (W W' : World) : Prop where
  heap : ∀ b, b < W.heap.size → W'.heap[b]? = W.heap[b]?
  size : W.heap.size ≤ W'.heap.size
  os : W'.os = W.os
  out : W'.output = W.output

theorem Old.kept {W W' : World} (h : Old W W') (may : MemPlace → Prop) : W.keptBut W' may := by
  refine ⟨h.os, h.out, fun i hi => ?_⟩
  rw [h.heap i hi]
  cases W.heap[i]? with
  | none => rfl
  | some o => cases o with
    | cells c t fr => exact ⟨rfl, rfl, rfl, fun _ _ => rfl⟩
    | map es clock => exact .inr ⟨rfl, rfl⟩
    | _ => rfl
theorem Old.same {W W' : World} (h : Old W W') {p : MemPlace} (hp : p.block < W.heap.size) : W.sameAt W' p := by
  cases p with
  | cell b off =>
    show W'.cell? ⟨b, off, none⟩ = W.cell? ⟨b, off, none⟩
    unfold World.cell?
    rw [h.heap b hp]
  | map b => exact h.heap b hp
theorem Old.frozen {W W' : World} (h : Old W W') {a : Addr} (ha : a.block < W.heap.size) : W'.frozen? a = W.frozen? a := by
  unfold World.frozen?
  rw [h.heap _ ha]

theorem trod_old {W W' : World} (h : Old W W') : ∀ {ts : List TypeId} {vs : List Value} {ds : List (DataW H)} {ps : List MemPlace}, DataW.TrodAll enc P W 0 (fun _ => true) true ts vs ds ps → DataW.TrodAll enc P W' 0 (fun _ => true) true ts vs ds ps
  | [], [], [], _, k => k
  | _ :: _, _ :: _, _ :: _, _, ⟨p, q, ⟨n, h1⟩, h2, e⟩ => ⟨p, q, ⟨n, DataW.trod_carry n _ _ _ h1 (fun x hx => h.same (DataW.TrodAll.lt (enc := enc) (P := P) (ts := [_]) (vs := [_]) (ds := [_]) ⟨p, [], ⟨n, h1⟩, rfl, by simp⟩ x hx))⟩, trod_old h h2, e⟩

theorem law_post {fn : Func} {s : ChangeSpec} {apart fresh handsOn again : Bool} {W W' : World} {args : Array Value} {ds gs : List (DataW H)} {before : List MemPlace} {tb : TypeId}
    (hK : Kids P (· < P.types.size)) (hz : ∀ t e, t < P.types.size → P.underlying t = some (.slice e) → 0 < P.cellsOf e) (hts : ∀ t ∈ fn.params.toList, t < P.types.size)
    (hW : DataW.Whole enc P fn.params.toList s.vars apart W args.toList ds gs before) (hv : s.vars = []) (hfn : s.fn H (ds ++ gs) = { results := [.lit (.bool true)], args := ds })
    (hres : fn.resultTypes = #[tb]) (hb : P.underlying tb = some .bool) (ho : Old W W') : s.post enc P fn apart fresh handsOn again W args (.bool true) W' := by
  have hW' := hW
  obtain ⟨pa, pv, hA, hV, hps, hnf, hnd⟩ := hW'
  rw [hv] at hV
  have hg : gs = [] ∧ pv = [] := by
    cases gs with
    | nil => exact ⟨rfl, hV⟩
    | cons g gs => exact hV.elim
  obtain ⟨rfl, rfl⟩ := hg
  rw [List.append_nil] at hps
  subst hps
  have hlt : ∀ p ∈ before, p.block < W.heap.size := fun p hp => hW.lt p hp
  have hold : ∀ p ∈ before, (fun b => decide (b < W.heap.size)) p.block = true := fun p hp => by simpa using hlt p hp
  have hr : (Value.bool true).resultList fn.resultTypes.size = [.bool true] := by rw [hres]; rfl
  have hres1 : ∀ (b : Nat) (sp : Nat → Bool) (hd : Bool), DataW.TrodAll enc P W' b sp hd fn.resultTypes.toList ((Value.bool true).resultList fn.resultTypes.size) (s.fn H (ds ++ [])).results [] := fun b sp hd => by
    rw [hr, hfn, hres]; exact ChangeShapes.trodAll_mk1 (shut_bool hb true)
  have hargs : ∀ sp : Nat → Bool, (∀ p ∈ before, sp p.block = true) → DataW.TrodAll enc P W' 0 sp true fn.params.toList args.toList (s.fn H (ds ++ [])).args before := fun sp hsp => by
    rw [hfn]; exact DataW.TrodAll.respare hK hz hts (trod_old ho hA) hsp
  have hvars : ∀ sp : Nat → Bool, DataW.TrodVars enc P W' sp s.vars (s.fn H (ds ++ [])).vars [] := fun sp => by rw [hv, hfn]; rfl
  have hall : ∀ p, p ∈ ([] ++ before) ++ ([] : List MemPlace) ↔ p ∈ before := fun p => by simp
  refine ⟨ds, [], before, [], before, [], hW, hres1 _ _ _, hargs _ hold, hvars _, ho.kept _, fun _ => ⟨ok_one hres rfl (okWide_bool_mk hb true), _, _, ([] ++ before) ++ [],
    ⟨[] ++ before, [], ChangeShapes.trodAll_append (hargs _ (fun _ _ => rfl)) (hres1 _ _ _), hvars _, rfl, fun b off hp => ?_, fun ha => ?_⟩, fun p hp _ => (hall p).1 hp⟩⟩
  · have hm := (hall _).1 hp
    rw [ho.frozen (hlt _ hm)]
    exact hnf b off hm
  · have := hnd ha
    simpa using this

/-- a law's contract, over all that is there -/
theorem law_calls {f : FuncId} {xs : List MV} (hF : Fn P f xs [] (.bool true) []) (W : World) (args : Array Value) (hv : CvL (fun _ => ⟨0, 0, 0, false, 0⟩) (fun b => if b < W.heap.size then W.heap[b]? else none) xs args.toList) :
    Calls P f args W fun e W' => e = .returned (.bool true) ∧ Old W W' := by
  have := hF (fun b => b < W.heap.size) (fun _ => ⟨0, 0, 0, false, 0⟩) (fun b => if b < W.heap.size then W.heap[b]? else none) W args.toList ⟨fun b o ho => ?_, fun k o hk => by simp [getO] at hk, fun k o _ _ _ hk => by simp [getO] at hk, fun k o _ hk => by simp [getO] at hk, fun k o _ hk => by simp [getO] at hk, fun b hb => hb⟩ hv
  · refine Calls.mono (by simpa using this) ?_
    rintro e W' ⟨ρ', m', v, rfl, hc, _, hN, _⟩
    simp only [Cv] at hc
    subst hc
    exact ⟨rfl, ⟨hN.un, hN.size, hN.os, hN.out⟩⟩
  · split at ho
    · exact ho
    · cases ho
end
end Go.Fo
