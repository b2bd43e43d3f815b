/- Regions of open order: the conditions of calls reckoned. -/
import Derived.Test.YtcaehpgdcjonfaaK3
namespace Go.Fo

theorem AJ_ok {P : Program} {Γ : Gd} {N : Nat} {Q : Exit → Act → World → Prop} {r : Rg} {A : List (Nat × MV)} {L : List (Nat × Option MObj)} {G : Prop} {l : List De} (hr : r.ok = true) (k : r.ok = true → AJ P Γ N Q r A L G l) : AJ P Γ N Q r A L G l := k hr

def callAB (π : Nat → Nat) (N : Nat) (dst : Option Nat) (g : Bool) (wk nk : List Nat) (Lc Lc' : List (Nat × Option MObj)) (res : MV) : Bool :=
  g && (match dst with | some d => decide (d < N) | none => true) && ((keysO Lc).all fun k => (keysO Lc').contains k) && injB π (keysO Lc') && tldB (keysO Lc') res Lc' &&
    ((keysO Lc').all fun k => decide (k < 1000) || (decide (1000 ≤ π k) && !(keysO Lc).contains k && nk.contains (π k))) && (keysO Lc').all fun k => wk.contains (π k)

theorem callA_okB {P : Program} {Γ : Gd} {N : Nat} {Q : Exit → Act → World → Prop} {r : Rg} {vA : List (Nat × MV)} {vL : List (Nat × Option MObj)} {i : Nat} {o : Oper} {f : FuncId} {xs ys : List MV} {Lc Lc' : List (Nat × Option MObj)} {res : MV} {C : Prop} (π : List (Nat × Nat)) (ho : r.ops[i]? = some o) (hF : Fn P f xs Lc res Lc')
    (h : calleeM vA o.op = some (f, ys, C)) (hC : C) (hf : fnb P f = true) (hys : ys = MV.renL (sg π) xs) (hsub : SubL (renO (sg π) Lc) vL) (hb : callAB (sg π) N o.dst o.guard.isNone (r.wk i) (r.nk i) Lc Lc' res = true) :
    OpAt P Γ N Q r vA vL (addL o.dst (res.ren (sg π)) [], renO (sg π) Lc') i ∧ De.ok r i (addL o.dst (res.ren (sg π)) [], renO (sg π) Lc') := by
  simp only [callAB, Bool.and_eq_true, List.all_eq_true, List.contains_iff_mem, Bool.or_eq_true, decide_eq_true_eq, Bool.not_eq_true', Option.isNone_iff_eq_none] at hb
  obtain ⟨⟨⟨⟨⟨⟨b1, b2⟩, b3⟩, b4⟩, b5⟩, b6⟩, b7⟩ := hb
  refine callA_ok ho (sg π) hF h hC hf b1 hys (fun d e => by rw [e] at b2; simpa using b2) hsub b3 (injB_ok b4) (tldB_ok b5) (fun k hk hge => ?_) b7
  rcases b6 k hk with b | ⟨⟨c1, c2⟩, c3⟩
  · omega
  · exact ⟨c1, fun e => (by rw [List.contains_iff_mem.2 e] at c2; cases c2), c3⟩

theorem AJ_callB {P : Program} {Γ : Gd} {N : Nat} {Q : Exit → Act → World → Prop} {r : Rg} (hr : r.ok = true) {A : List (Nat × MV)} {L : List (Nat × Option MObj)} {G : Prop} {l : List De} (i : Nat) {o : Oper} {f : FuncId} {xs ys : List MV} {Lc Lc' : List (Nat × Option MObj)} {res : MV} {C : Prop} (π : List (Nat × Nat)) (hi : l.length = i) (ho : r.ops[i]? = some o) (hF : Fn P f xs Lc res Lc') (hf : fnb P f = true)
    (h : calleeM (viewA r (fnOf l) A i) o.op = some (f, ys, C)) (hC : C) (hys : ys = MV.renL (sg π) xs) (hsub : SubL (renO (sg π) Lc) (viewL r (fnOf l) L i)) (hb : callAB (sg π) N o.dst o.guard.isNone (r.wk i) (r.nk i) Lc Lc' res = true)
    (k : AJ P Γ N Q r A L G (l ++ [(addL o.dst (res.ren (sg π)) [], renO (sg π) Lc')])) : AJ P Γ N Q r A L G l := by
  subst hi
  exact AJ_step hr (by
    by_cases e : l.length < r.ops.size
    · exact e
    · rw [Array.getElem?_eq_none (by omega)] at ho; cases ho) (callA_okB π ho hF h hC hf hys hsub hb) k

end Go.Fo
