/- Samples are split into planes. -/
import Derived.Test.YtphienllhdoenaaGreatStEg
namespace Go.Fo
set_option maxRecDepth 6000
theorem wave_ok {m : Int} (hm : m = 4 ∨ m = 8) (a b : Int) (x turn y : List Int) (ht : (turn.length : Int) = 8 * m) : Ok (fun _=>True) (poly_bands_wave 5000 a b m x turn y):=by
 have hd : kwrap .i64 (8 * m) = 8 * m:=kw64 (by omega) (by omega)
 unfold poly_bands_wave
 rw [hd]
 generalize kwrap .i64 (a * b) = w
 have h1:=Int.lt_tmod_of_pos w (b:=8 * m) (by omega)
 have h2:=Int.tmod_lt_of_pos w (b:=8 * m) (by omega)
 have e : kwrap .i64 (Int.tmod w (8 * m) + 8 * m) = Int.tmod w (8 * m) + 8 * m:=kw64 (by omega) (by omega)
 dsimp only
 rw [e]
 have h3 : Int.tmod (Int.tmod w (8 * m) + 8 * m) (8 * m) = (Int.tmod w (8 * m) + 8 * m) % (8 * m):=Int.tmod_eq_emod_of_nonneg (by omega)
 have h4:=Int.emod_nonneg (Int.tmod w (8 * m) + 8 * m) (b:=8 * m) (by omega)
 have h5:=Int.emod_lt_of_pos (Int.tmod w (8 * m) + 8 * m) (b:=8 * m) (by omega)
 rw [h3]
 exact Ok.gd (by omega) (Ok.gd (by omega) (Ok.gd ⟨h4,by omega⟩ (Ok.some trivial)))
theorem round_ok (x s : Int) (hs : 1 ≤ s) (hs2 : s ≤ 62) : Ok (fun _=>True) (fix_Round 5000 x s):=by
 refine Ok.bind (Q:=fun r=>r = s) (Ok.ite (fun d=>by have:=dt d; omega) (fun _=>Ok.ite (fun d=>by have:=dt d; omega) (fun _=>Ok.some rfl))) ?_
 intro r hr
 rw [show r = s from hr]
 have e : kwrap .i64 (s - 1) = s - 1:=kw64 (by omega) (by omega)
 exact Ok.ite (fun _=>Ok.some trivial) (fun _=>Ok.gd (by omega) (Ok.gd (by rw [e]; omega) (Ok.some trivial)))
theorem rounded_ok (x s : Int) (hs : 1 ≤ s) (hs2 : s ≤ 62) : Ok (fun _=>True) (poly_rounded 5000 x s) :=
 Ok.bind (round_ok x s hs hs2) (fun _ _=>Ok.bind (sat_ok _) (fun _ _=>Ok.some trivial))
theorem part_ok {C n : Int} {l : List Int} (hC : C = 1 ∨ C = 2) (hl : (l.length : Int) = n * C) (hn : 0 ≤ n) (hn2 : n ≤ 1000) : Ok (fun r=>r.2 = 0 ∧ Sh C n r.1) (pcm_Part 5000 l C):=by
 have hm : Int.tmod (l.length : Int) C = 0:=by
  rw [Int.tmod_eq_emod_of_nonneg (by omega),hl]
  exact Int.mul_emod_left n C
 have hlc : (l.length : Int) ≤ 2000:=by rcases hC with rfl | rfl <;> omega
 refine Ok.gd (fun _=>by omega) ?_
 dsimp only
 rw [hm]
 refine Ok.ite (fun c=>?_) (fun _=>?_)
 ·rw [decide_eq_false (by omega),decide_eq_false (by omega)] at c; cases c
 refine Ok.gd ⟨by omega,by omega,by omega⟩ (Ok.bind (Q:=fun X=>Sh C n X) ?_ (fun r hr=>Ok.some ⟨rfl,hr⟩))
 have hrep : ((List.replicate (Int.toNat C) ([] : List Int)).length : Int) = C:=by simp; omega
 unfold pcm_Part.l0
 refine rounds_ok2 (fun i X=>0 ≤ i ∧ i ≤ (l.length : Int) ∧ (X.length : Int) = C ∧ ∀ q,0 ≤ q → q < C → ((row X q).length : Int) = (i + C - 1 - q) / C) (fun i _=>((l.length : Int) - i).toNat) _ ?_ 5000 _ _ ⟨by omega,by omega,hrep,fun q q0 q1=>?_⟩ (by omega)
 ·rintro next i X ⟨g1,g2,g3,g4⟩ ih
  refine Ok.ite (fun d=>?_) (fun d=>Ok.some ⟨g3,fun q q0 q1=>?_⟩)
  ·have d:=dt d
   have e1 : Int.tmod i C = i % C:=Int.tmod_eq_emod_of_nonneg g1
   have m0 : 0 ≤ i % C:=Int.emod_nonneg i (by omega)
   have m1 : i % C < C:=Int.emod_lt_of_pos i (by omega)
   have hr:=g4 (i % C) m0 m1
   have hr : ((X.getD (i % C).toNat []).length : Int) = (i + C - 1 - i % C) / C:=hr
   have hrb : ((X.getD (i % C).toNat []).length : Int) ≤ 3000:=by rw [hr]; rcases hC with rfl | rfl <;> omega
   have e2:=kw1 (x:=i) (by omega) (by omega)
   refine Ok.gd ⟨g1,d⟩ (Ok.gd (by omega) (Ok.gd (by omega) ?_))
   dsimp only
   rw [e1,e2]
   refine Ok.gd ⟨m0,by omega⟩ (Ok.gd (by omega) (Ok.gd (by show (((X.getD (i % C).toNat []).length : Int) + 1) * 2 ≤ _; omega) (Ok.gd ⟨m0,by omega⟩ (Ok.gd (by omega) ?_))))
   refine ih _ _ ⟨by omega,by omega,by rw [List.length_set]; exact g3,fun q q0 q1=>?_⟩ (by omega)
   rw [row_set m0 (by omega) q0]
   have hq:=g4 q q0 q1
   by_cases e : q = i % C
   ·rw [if_pos e,List.length_append]
    show ((((X.getD (i % C).toNat []).length + 1 : Nat)) : Int) = _
    rw [e]
    rcases hC with rfl | rfl <;> omega
   ·rw [if_neg e,hq]
    rcases hC with rfl | rfl <;> omega
  ·have d:=df d
   have hi : i = n * C:=by omega
   rw [g4 q q0 q1,hi]
   rcases hC with rfl | rfl <;> omega
 ·have e0 : row (List.replicate (Int.toNat C) ([] : List Int)) q = []:=by
   show (List.replicate (Int.toNat C) ([] : List Int)).getD q.toNat [] = []
   rw [List.getD_eq_getElem?_getD,List.getElem?_replicate]; split <;> rfl
  rw [e0]
  show (0 : Int) = _
  rcases hC with rfl | rfl <;> omega
theorem sfeed_ok {m : Int} (hm : m = 4 ∨ m = 8) {s h turn V : List Int} (hs : (s.length : Int) = m) (hh : (h.length : Int) = 10 * m) (ht : (turn.length : Int) = 8 * m) (hV : (V.length : Int) = 10 * m) :
  Ok (fun r=>(r.1.length : Int) = m ∧ (r.2.2.length : Int) = 10 * m) (poly_Splitter_Feed 5000 s m h turn V):=by
 have e1 : kwrap .i64 (2 * m) = 2 * m:=kw64 (by omega) (by omega)
 refine Ok.ite (fun c=>by rw [hs] at c; simp at c) (fun _=>?_)
 dsimp only
 rw [e1]
 refine Ok.gd ⟨by omega,by omega⟩ (Ok.gd (by omega) ?_)
 have hc : ((cpy (Int.toNat m) V V).length : Int) = 10 * m:=by unfold cpy; simp; omega
 refine Ok.bind (Q:=fun r=>(r.length : Int) = 10 * m) ?_ ?_
 ·unfold poly_Splitter_Feed.l4
  refine rounds_ok2 (fun i X=>0 ≤ i ∧ i ≤ m ∧ (X.length : Int) = 10 * m) (fun i _=>(m - i).toNat) _ ?_ 5000 _ _ ⟨by omega,by omega,hc⟩ (by omega)
  rintro next i X ⟨g1,g2,g3⟩ ih
  refine Ok.ite (fun d=>?_) (fun _=>Ok.some g3)
  have d:=dt d
  have e2 : kwrap .i64 (m - 1) = m - 1:=kw64 (by omega) (by omega)
  have e3 : kwrap .i64 (m - 1 - i) = m - 1 - i:=kw64 (by omega) (by omega)
  have e:=kw1 (x:=i) (by omega) (by omega)
  refine Ok.gd ⟨g1,d⟩ ?_
  dsimp only
  rw [e2,e3]
  refine Ok.gd ⟨by omega,by omega⟩ (Ok.gd (by omega) ?_)
  exact ih _ _ ⟨by omega,by omega,by rw [List.length_set]; exact g3⟩ (by omega)
 intro X hX
 have hX : (X.length : Int) = 10 * m:=hX
 have hr2 : ((List.replicate (Int.toNat (2 * m)) (0 : Int)).length : Int) = 2 * m:=by simp; omega
 have hr1 : ((List.replicate (Int.toNat m) (0 : Int)).length : Int) = m:=by simp; omega
 refine Ok.gd ⟨by omega,by omega,by omega⟩ ?_
 rw [hr2]
 refine Ok.bind (Q:=fun r=>(r.length : Int) = 2 * m) ?_ ?_
 ·unfold poly_Splitter_Feed.l2
  refine rounds_ok2 (fun i Y=>0 ≤ i ∧ i ≤ 2 * m ∧ (Y.length : Int) = 2 * m) (fun i _=>(2 * m - i).toNat) _ ?_ 5000 _ _ ⟨by omega,by omega,hr2⟩ (by omega)
  rintro next i Y ⟨g1,g2,g3⟩ ih
  refine Ok.ite (fun d=>?_) (fun _=>Ok.some g3)
  have d:=dt d
  refine Ok.bind (Q:=fun _=>True) ?_ ?_
  ·unfold poly_Splitter_Feed.l3
   refine rounds_ok2 (fun _ j=>0 ≤ j ∧ j ≤ 5) (fun _ j=>(5 - j).toNat) _ ?_ 5000 _ _ ⟨by omega,by omega⟩ (by omega)
   rintro next2 t j ⟨f1,f2⟩ ih2
   refine Ok.ite (fun d2=>?_) (fun _=>Ok.some trivial)
   have d2:=dt d2
   have a4 : kwrap .i64 (2 * m * j) = 2 * m * j:=by rcases hm with rfl | rfl <;> exact kw64 (by omega) (by omega)
   have a5 : kwrap .i64 (i + 2 * m * j) = i + 2 * m * j:=by rcases hm with rfl | rfl <;> exact kw64 (by omega) (by omega)
   have e:=kw1 (x:=j) (by omega) (by omega)
   dsimp only
   rw [e1,a4,a5]
   rcases hm with rfl | rfl
   ·exact Ok.gd ⟨by omega,by omega⟩ (Ok.gd (by omega) (Ok.gd ⟨by omega,by omega⟩ (ih2 _ _ ⟨by omega,by omega⟩ (by omega))))
   ·exact Ok.gd ⟨by omega,by omega⟩ (Ok.gd (by omega) (Ok.gd ⟨by omega,by omega⟩ (ih2 _ _ ⟨by omega,by omega⟩ (by omega))))
  ·intro x _
   refine Ok.bind (rounded_ok _ _ (by decide) (by decide)) ?_
   intro r _
   refine Ok.gd ⟨g1,by omega,by omega⟩ ?_
   have e:=kw1 (x:=i) (by omega) (by omega)
   exact ih _ _ ⟨by omega,by omega,by rw [List.length_set]; exact g3⟩ (by omega)
 intro Y hY
 have hY : (Y.length : Int) = 2 * m:=hY
 refine Ok.gd ⟨by omega,by omega,by omega⟩ ?_
 rw [hr1]
 refine Ok.bind (Q:=fun r=>(r.length : Int) = m) ?_ (fun r hr=>Ok.some ⟨hr,hX⟩)
 unfold poly_Splitter_Feed.l0
 refine rounds_ok2 (fun i Z=>0 ≤ i ∧ i ≤ m ∧ (Z.length : Int) = m) (fun i _=>(m - i).toNat) _ ?_ 5000 _ _ ⟨by omega,by omega,hr1⟩ (by omega)
 rintro next i Z ⟨g1,g2,g3⟩ ih
 refine Ok.ite (fun d=>?_) (fun _=>Ok.some g3)
 have d:=dt d
 refine Ok.bind (Q:=fun _=>True) ?_ ?_
 ·unfold poly_Splitter_Feed.l1
  refine rounds_ok2 (fun _ j=>0 ≤ j ∧ j ≤ (Y.length : Int)) (fun _ j=>((Y.length : Int) - j).toNat) _ ?_ 5000 _ _ ⟨by omega,by omega⟩ (by omega)
  rintro next2 t j ⟨f1,f2⟩ ih2
  refine Ok.ite (fun d2=>?_) (fun _=>Ok.some trivial)
  have d2:=dt d2
  have e:=kw1 (x:=j) (by omega) (by omega)
  refine Ok.gd ⟨f1,d2,by omega⟩ (Ok.bind (wave_ok hm _ _ _ _ _ ht) ?_)
  intro r _
  exact ih2 _ _ ⟨by omega,by omega⟩ (by omega)
 ·intro x _
  have es : kwrap .i64 (16 + kwrap .i64 (Int.tdiv m 4)) = 16 + m / 4:=by rcases hm with rfl | rfl <;> decide
  dsimp only
  rw [es]
  refine Ok.bind (rounded_ok _ _ (by omega) (by omega)) ?_
  intro r _
  refine Ok.gd ⟨g1,by omega,by omega⟩ ?_
  have e:=kw1 (x:=i) (by omega) (by omega)
  exact ih _ _ ⟨by omega,by omega,by rw [List.length_set]; exact g3⟩ (by omega)
def PC (C M m c k : Int) (X : List (List (List Int))) : Prop:=(X.length : Int) = C ∧ ∀ q,0 ≤ q → q < C → Sh (if q < c then M else if q = c then k else 0) m (blk X q)
theorem sh_app {k m : Int} {X : List (List Int)} {r : List Int} (h : Sh k m X) (hr : (r.length : Int) = m) : Sh (k + 1) m (X ++ [r]):=by
 obtain ⟨h1,h2⟩:=h
 refine ⟨by rw [List.length_append]; show (((X.length + 1 : Nat)) : Int) = _; omega,fun q q0 q1=>?_⟩
 rw [row_app q0 (by omega)]
 by_cases e : q = (X.length : Int)
 ·rw [if_pos e]; exact hr
 ·rw [if_neg e]; exact h2 q q0 (by omega)
theorem PC.app {C M m c k : Int} {X : List (List (List Int))} (h : PC C M m c k X) (hc : 0 ≤ c) (hc2 : c < C) {r : List Int} (hr : (r.length : Int) = m) : PC C M m c (k + 1) (X.set c.toNat (X.getD c.toNat [] ++ [r])):=by
 obtain ⟨h1,h2⟩:=h
 refine ⟨by rw [List.length_set]; exact h1,fun q q0 q1=>?_⟩
 have hq:=h2 q q0 q1
 rw [blk_set hc (by omega) q0]
 by_cases e : q = c
 ·subst e
  rw [if_pos rfl,if_neg (by omega),if_pos rfl]
  rw [if_neg (by omega),if_pos rfl] at hq
  exact sh_app hq hr
 ·rw [if_neg e,if_neg e]
  rw [if_neg e] at hq
  exact hq
theorem PC.nxt {C M m c : Int} {X : List (List (List Int))} (h : PC C M m c M X) : PC C M m (c + 1) 0 X:=by
 refine ⟨h.1,fun q q0 q1=>?_⟩
 have hq:=h.2 q q0 q1
 by_cases e2 : q < c
 ·rw [if_pos e2] at hq; rw [if_pos (by omega)]; exact hq
 ·rw [if_neg e2] at hq
  by_cases e : q = c
  ·rw [if_pos e] at hq; rw [if_pos (by omega)]; exact hq
  ·rw [if_neg e] at hq; rw [if_neg (by omega)]; split <;> exact hq
theorem PC.rep {C M m : Int} (h : 0 ≤ C) : PC C M m 0 0 (List.replicate C.toNat []):=by
 refine ⟨by simp; omega,fun q q0 q1=>?_⟩
 have e0 : blk (List.replicate C.toNat []) q = []:=by
  show (List.replicate C.toNat ([] : List (List Int))).getD q.toNat [] = []
  rw [List.getD_eq_getElem?_getD,List.getElem?_replicate]; split <;> rfl
 rw [e0,if_neg (by omega)]
 split <;> exact ⟨rfl,fun b b0 b1=>by omega⟩
theorem PC.len {C M m c k : Int} {X : List (List (List Int))} (h : PC C M m c k X) (hc : 0 ≤ c) (hc2 : c < C) : ((X.getD c.toNat []).length : Int) = k:=by
 have:=(h.2 c hc hc2).1
 rw [if_neg (by omega),if_pos rfl] at this; exact this
theorem PC.all {C M m : Int} {X : List (List (List Int))} (h : PC C M m C 0 X) : Cd C M m X:=⟨h.1,fun q q0 q1=>by have:=h.2 q q0 q1; rwa [if_pos q1] at this⟩
end Go.Fo
