/- Planes of parameters. -/
import Derived.Test.YtphienllhdoenaaGreatSbOd
namespace Go.Fo
set_option maxRecDepth 6000
def Part (M i B b : Int) (X : List (List Int)) : Prop:=(X.length : Int) = M ∧ ∀ q,0 ≤ q → q < M → ((row X q).length : Int) = if q < i then B else if q = i then b else 0
theorem row_set {X : List (List Int)} {i q : Int} {r : List Int} (hi : 0 ≤ i) (hX : i < (X.length : Int)) (hq : 0 ≤ q) : row (X.set i.toNat r) q = if q = i then r else row X q:=by
 show (X.set i.toNat r).getD q.toNat [] = if q = i then r else X.getD q.toNat []
 rw [List.getD_eq_getElem?_getD,List.getD_eq_getElem?_getD]
 by_cases e : q = i
 ·rw [if_pos e,e,List.getElem?_set_self (by omega)]; rfl
 ·rw [if_neg e,List.getElem?_set_ne (by omega)]
theorem blk_set {X : List (List (List Int))} {i q : Int} {r : List (List Int)} (hi : 0 ≤ i) (hX : i < (X.length : Int)) (hq : 0 ≤ q) : blk (X.set i.toNat r) q = if q = i then r else blk X q:=by
 show (X.set i.toNat r).getD q.toNat [] = if q = i then r else X.getD q.toNat []
 rw [List.getD_eq_getElem?_getD,List.getD_eq_getElem?_getD]
 by_cases e : q = i
 ·rw [if_pos e,e,List.getElem?_set_self (by omega)]; rfl
 ·rw [if_neg e,List.getElem?_set_ne (by omega)]
theorem row_app {X : List (List Int)} {r : List Int} {q : Int} (hq : 0 ≤ q) (hX : q ≤ (X.length : Int)) : row (X ++ [r]) q = if q = (X.length : Int) then r else row X q:=by
 show (X ++ [r]).getD q.toNat [] = if q = (X.length : Int) then r else X.getD q.toNat []
 rw [List.getD_eq_getElem?_getD,List.getD_eq_getElem?_getD]
 by_cases e : q = (X.length : Int)
 ·rw [if_pos e,List.getElem?_append_right (by omega),show q.toNat - X.length = 0 by omega]; rfl
 ·rw [if_neg e,List.getElem?_append_left (by omega)]
theorem Part.app {M i B b : Int} {X : List (List Int)} (h : Part M i B b X) (hi : 0 ≤ i) (hM : i < M) (v : Int) : Part M i B (b + 1) (X.set i.toNat (X.getD i.toNat [] ++ [v])):=by
 obtain ⟨h1,h2⟩:=h
 refine ⟨by rw [List.length_set]; exact h1,fun q q0 q1=>?_⟩
 rw [row_set hi (by omega) q0]
 have hq:=h2 q q0 q1
 by_cases e : q = i
 ·rw [if_pos e]
  rw [if_neg (by omega),if_pos e] at hq ⊢
  rw [List.length_append]
  subst e
  have hq : ((X.getD q.toNat []).length : Int) = b:=hq
  show ((((X.getD q.toNat []).length + 1 : Nat)) : Int) = _
  omega
 ·rw [if_neg e]
  rw [if_neg e] at hq ⊢
  exact hq
theorem Part.len {M i B b : Int} {X : List (List Int)} (h : Part M i B b X) (hi : 0 ≤ i) (hM : i < M) : ((X.getD i.toNat []).length : Int) = b:=by
 have:=h.2 i hi hM
 rw [if_neg (by omega),if_pos rfl] at this
 exact this
theorem Part.nxt {M i B : Int} {X : List (List Int)} (h : Part M i B B X) : Part M (i + 1) B 0 X:=by
 refine ⟨h.1,fun q q0 q1=>?_⟩
 have:=h.2 q q0 q1
 rw [this]
 by_cases e : q < i
 ·rw [if_pos e,if_pos (by omega)]
 ·rw [if_neg e]
  by_cases e2 : q = i
  ·rw [if_pos e2,if_pos (by omega)]
  ·rw [if_neg e2,if_neg (by omega)]; split <;> rfl
theorem Part.rep {M B : Int} (h : 0 ≤ M) : Part M 0 B 0 (List.replicate M.toNat []):=by
 refine ⟨by simp; omega,fun q q0 q1=>?_⟩
 rw [if_neg (by omega)]
 show (((List.replicate M.toNat ([] : List Int)).getD q.toNat []).length : Int) = _
 rw [List.getD_eq_getElem?_getD,List.getElem?_replicate,if_pos (by omega)]
 show ((0 : Nat) : Int) = _
 split <;> rfl
theorem Part.all {M B b : Int} {X : List (List Int)} (h : Part M M B b X) : Sh M B X:=⟨h.1,fun q q0 q1=>by have:=h.2 q q0 q1; rwa [if_pos q1] at this⟩
theorem bands_ok {M B : Int} {P : List (List Int)} (h : Sh M B P) (hM : 1 ≤ M) (hM2 : M ≤ 100) (hB : 1 ≤ B) (hB2 : B ≤ 8) : Ok (fun r=>r = B) (quant_bands 5000 P):=by
 obtain ⟨h1,h2⟩:=h
 have h0 : ((Kd.nth (.slice (.int .i32)) P 0).length : Int) = B:=h2 0 (by omega) (by omega)
 refine Ok.gd (fun _=>by omega) (Ok.ite (fun c=>?_) (fun _=>?_))
 ·have c : (bif ((P.length : Int) == 0) then true else decide (((Kd.nth (.slice (.int .i32)) P 0).length : Int) > 8)) = true:=c
  rw [h0,show ((P.length : Int) == 0) = false by rw [beq_eq_false_iff_ne]; omega] at c
  have:=dt c
  omega
 ·refine Ok.bind (Q:=fun z=>z = .inl ()) ?_ ?_
  ·unfold quant_bands.l0
   refine rounds_ok1 (fun i=>0 ≤ i ∧ i ≤ (P.length : Int)) (fun i=>((P.length : Int) - i).toNat) _ ?_ 5000 _ ⟨by omega,by omega⟩ (by omega)
   rintro next i ⟨g1,g2⟩ ih
   refine Ok.ite (fun d=>?_) (fun _=>Ok.some rfl)
   have d:=dt d
   have hi : ((Kd.nth (.slice (.int .i32)) P (Int.toNat i)).length : Int) = B:=h2 i g1 (by omega)
   refine Ok.gd ⟨g1,d⟩ (Ok.gd (by omega) (Ok.ite (fun c=>?_) (fun _=>?_)))
   ·rw [hi,h0] at c; simp at c
   ·have e:=kw1 (x:=i) (by omega) (by omega)
    exact ih _ ⟨by omega,by omega⟩ (by omega)
  ·rintro _ rfl
   exact Ok.gd (by omega) (Ok.some h0)
theorem sat_ok (x : Int) : Ok (fun _=>True) (fix_Sat32 5000 x):=by
 refine Ok.bind (Q:=fun _=>True) (Ok.ite (fun _=>Ok.some trivial) (fun _=>Ok.ite (fun _=>Ok.some trivial) (fun _=>Ok.some trivial))) (fun _ _=>Ok.some trivial)
theorem sides1_ok (x y : Int) : Ok (fun _=>True) (quant_Sides_1 5000 x y):=by
 refine Ok.bind (Q:=fun _=>True) (Ok.bind (sat_ok _) (fun _ _=>Ok.some trivial)) (fun _ _=>?_)
 exact Ok.bind (Q:=fun _=>True) (Ok.bind (sat_ok _) (fun _ _=>Ok.some trivial)) (fun _ _=>Ok.some trivial)
theorem pairs_ok {M B : Int} {P R : List (List Int)} (hP : Sh M B P) (hR : Sh M B R) (hM : 1 ≤ M) (hM2 : M ≤ 100) (hB : 1 ≤ B) (hB2 : B ≤ 8) : Ok (fun r=>Sh M B r.1 ∧ Sh M B r.2.1) (quant_Sides 5000 P R):=by
 have hP1:=hP.1
 have hR1:=hR.1
 refine Ok.bind (Q:=fun r=>Sh M B r.1 ∧ Sh M B r.2.1) ?_ (fun r hr=>Ok.some hr)
 refine Ok.bind (Q:=fun x=>x = false) (Ok.bind (bands_ok hP hM hM2 hB hB2) ?_) ?_
 ·intro r hr
  have hr : r = B:=hr
  rw [hr]
  refine Ok.ite (fun c=>by simp at c; omega) (fun _=>Ok.bind (bands_ok hP hM hM2 hB hB2) ?_)
  intro r2 hr2
  have hr2 : r2 = B:=hr2
  rw [hr2]
  refine Ok.bind (bands_ok hR hM hM2 hB hB2) ?_
  intro r3 hr3
  have hr3 : r3 = B:=hr3
  rw [hr3]
  refine Ok.some ?_
  show (bif (B != B) then true else ((P.length : Int) != (R.length : Int))) = false
  rw [hP1,hR1]; simp
 rintro _ rfl
 refine Ok.ite (fun h=>by cases h) (fun _=>Ok.gd ⟨by omega,by omega,by omega⟩ (Ok.gd ⟨by omega,by omega,by omega⟩ (Ok.bind (Q:=fun r=>Sh M B r.1 ∧ Sh M B r.2) ?_ ?_)))
 ·have hrep:=Part.rep (M:=M) (B:=B) (by omega)
  rw [show Int.toNat (P.length : Int) = M.toNat by omega]
  unfold quant_pairs_2.l0
  refine rounds_ok3 (fun i X Y=>0 ≤ i ∧ i ≤ M ∧ Part M i B 0 X ∧ Part M i B 0 Y) (fun i _ _=>(M - i).toNat) _ ?_ 5000 _ _ _ ⟨by omega,by omega,hrep,hrep⟩ (by omega)
  rintro next i X Y ⟨g1,g2,g3,g4⟩ ih
  refine Ok.ite (fun d=>?_) (fun d=>?_)
  ·have d:=dt d
   have hr:=hP.2 i g1 (by omega)
   have hr2:=hR.2 i g1 (by omega)
   refine Ok.gd ⟨g1,d⟩ (Ok.bind (Q:=fun r=>Part M i B B r.1 ∧ Part M i B B r.2) ?_ ?_)
   ·unfold quant_pairs_2.l1
    refine rounds_ok3 (fun b X Y=>0 ≤ b ∧ b ≤ B ∧ Part M i B b X ∧ Part M i B b Y) (fun b _ _=>(B - b).toNat) _ ?_ 5000 _ _ _ ⟨by omega,by omega,g3,g4⟩ (by omega)
    rintro next2 b X Y ⟨f1,f2,f3,f4⟩ ih2
    refine Ok.ite (fun d2=>?_) (fun d2=>?_)
    ·have d2 : b < ((row P i).length : Int):=dt d2
     have hX:=f3.1
     have hY:=f4.1
     have hXl:=f3.len g1 (by omega)
     have hYl:=f4.len g1 (by omega)
     refine Ok.gd ⟨f1,d2⟩ (Ok.gd ⟨g1,by omega,f1,by show b < ((row R i).length : Int); omega⟩ (Ok.bind (sides1_ok _ _) ?_))
     rintro ⟨v,w⟩ _
     refine Ok.gd ⟨g1,by omega⟩ (Ok.gd (by omega) (Ok.gd (by show (((X.getD i.toNat []).length : Int) + 1) * 4 ≤ _; omega) (Ok.gd ⟨g1,by omega⟩ (Ok.gd (by omega) (Ok.gd (by show (((Y.getD i.toNat []).length : Int) + 1) * 4 ≤ _; omega) (Ok.gd ⟨g1,by omega⟩ (Ok.gd (by omega) (Ok.gd ⟨g1,by omega⟩ (Ok.gd (by omega) ?_)))))))))
     have e : kwrap .i64 (b + 1) = b + 1:=kw1 (by omega) (by omega)
     dsimp only
     rw [e]
     exact ih2 _ _ _ ⟨by omega,by omega,f3.app g1 (by omega) v,f4.app g1 (by omega) w⟩ (by omega)
    ·have d2 : ¬ b < ((row P i).length : Int):=df d2
     have : b = B:=by omega
     subst this
     exact Ok.some ⟨f3,f4⟩
   ·rintro ⟨X',Y'⟩ ⟨e1,e2⟩
    have e : kwrap .i64 (i + 1) = i + 1:=kw1 (by omega) (by omega)
    dsimp only
    rw [e]
    exact ih _ _ _ ⟨by omega,by omega,e1.nxt,e2.nxt⟩ (by omega)
  ·have : i = M:=by have:=df d; omega
   subst this
   exact Ok.some ⟨g3.all,g4.all⟩
 ·rintro ⟨X,Y⟩ h
  exact Ok.some h
theorem cln_ok {M B : Int} {P : List (List Int)} (hP : Sh M B P) (hM : 1 ≤ M) (hM2 : M ≤ 100) (hB : 1 ≤ B) (hB2 : B ≤ 8) : Ok (fun r=>Sh M B r) (subband_clone 5000 P):=by
 obtain ⟨h1,h2⟩:=hP
 refine Ok.gd ⟨by omega,by omega,by omega⟩ (Ok.bind (Q:=fun r=>Sh M B r) ?_ (fun r hr=>Ok.some hr))
 rw [show Int.toNat (P.length : Int) = M.toNat by omega]
 unfold subband_clone.l0
 refine rounds_ok2 (fun i X=>0 ≤ i ∧ i ≤ M ∧ Part M i B 0 X) (fun i _=>(M - i).toNat) _ ?_ 5000 _ _ ⟨by omega,by omega,Part.rep (by omega)⟩ (by omega)
 rintro next i X ⟨g1,g2,g3⟩ ih
 refine Ok.ite (fun d=>?_) (fun d=>?_)
 ·have d:=dt d
  have hr:=h2 i g1 (by omega)
  have hX:=g3.1
  refine Ok.gd ⟨g1,d⟩ (Ok.bind (Q:=fun r=>r = row P i) (Ok.gd (fun q=>?_) (Ok.gd ?_ (Ok.some rfl))) ?_)
  ·have q : row P i = []:=q
   rw [q] at hr; simp at hr; omega
  ·show ((0 : Int) + ((row P i).length : Int)) * 4 ≤ _
   omega
  rintro _ rfl
  refine Ok.gd ⟨g1,by omega,by omega⟩ ?_
  have e : kwrap .i64 (i + 1) = i + 1:=kw1 (by omega) (by omega)
  dsimp only
  rw [e]
  refine ih _ _ ⟨by omega,by omega,by rw [List.length_set]; exact hX,fun q q0 q1=>?_⟩ (by omega)
  rw [row_set g1 (by omega) q0]
  have hq:=g3.2 q q0 q1
  by_cases e2 : q = i
  ·rw [if_pos e2,if_pos (by omega)]; exact hr
  ·rw [if_neg e2,hq]
   by_cases e3 : q < i
   ·rw [if_pos e3,if_pos (by omega)]
   ·rw [if_neg e3,if_neg e2,if_neg (by omega)]; split <;> rfl
 ·have : i = M:=by have:=df d; omega
  subst this
  exact Ok.some g3.all
theorem sh_set {M B : Int} {X : List (List Int)} (h : Sh M B X) {i b v : Int} (hi : 0 ≤ i) (hM : i < M) : Sh M B (X.set i.toNat ((X.getD i.toNat []).set b.toNat v)):=by
 refine ⟨by rw [List.length_set]; exact h.1,fun q q0 q1=>?_⟩
 have h1:=h.1
 rw [row_set hi (by omega) q0]
 by_cases e : q = i
 ·rw [if_pos e,List.length_set]; exact h.2 i hi hM
 ·rw [if_neg e]; exact h.2 q q0 q1
theorem swap1_ok {M B b : Int} {x y X Y : List (List Int)} (hx : Sh M B x) (hy : Sh M B y) (hX : Sh M B X) (hY : Sh M B Y) (hM2 : M ≤ 100) (hM : 0 ≤ M) (hb : 0 ≤ b) (hb2 : b < B) : Ok (fun r=>Sh M B r.1 ∧ Sh M B r.2) (subband_Params_swapped_1 5000 b x y X Y):=by
 refine Ok.bind (Q:=fun r=>Sh M B r.1 ∧ Sh M B r.2) ?_ (fun r hr=>Ok.some hr)
 have hx1:=hx.1
 have hy1:=hy.1
 unfold subband_Params_swapped_1.l0
 refine rounds_ok3 (fun i X Y=>0 ≤ i ∧ i ≤ M ∧ Sh M B X ∧ Sh M B Y) (fun i _ _=>(M - i).toNat) _ ?_ 5000 _ _ _ ⟨by omega,by omega,hX,hY⟩ (by omega)
 rintro next i X Y ⟨g1,g2,g3,g4⟩ ih
 refine Ok.ite (fun d=>?_) (fun _=>Ok.some ⟨g3,g4⟩)
 have d:=dt d
 have a1:=g3.1
 have a2:=g4.1
 have a3 : ((X.getD i.toNat []).length : Int) = B:=g3.2 i g1 (by omega)
 have a4 : ((Y.getD i.toNat []).length : Int) = B:=g4.2 i g1 (by omega)
 have a5 : ((Kd.nth (.slice (.int .i32)) x (Int.toNat i)).length : Int) = B:=hx.2 i g1 (by omega)
 have a6 : ((Kd.nth (.slice (.int .i32)) y (Int.toNat i)).length : Int) = B:=hy.2 i g1 (by omega)
 refine Ok.gd ⟨g1,by omega⟩ (Ok.gd (by omega) (Ok.gd ⟨g1,by omega⟩ (Ok.gd (by omega) (Ok.gd ⟨g1,by omega⟩ (Ok.gd ⟨hb,by omega⟩ (Ok.gd ⟨g1,by omega⟩ (Ok.gd ⟨hb,by omega⟩ (Ok.gd ⟨hb,by omega⟩ (Ok.gd (by omega) (Ok.gd ⟨hb,by omega⟩ (Ok.gd (by omega) ?_)))))))))))
 have e : kwrap .i64 (i + 1) = i + 1:=kw1 (by omega) (by omega)
 dsimp only
 rw [e]
 exact ih _ _ _ ⟨by omega,by omega,sh_set g3 g1 (by omega),sh_set g4 g1 (by omega)⟩ (by omega)
theorem contains_ok {J : List Int} (hJ : J.length ≤ 4000) : Ok (fun r=>r = true → ∃ i,0 ≤ i ∧ i < (J.length : Int) ∧ at' J i = 1) (slices_Contains_int_int 5000 J 1):=by
 refine Ok.bind (Q:=fun r=>r ≥ 0 → ∃ i,0 ≤ i ∧ i < (J.length : Int) ∧ at' J i = 1) ?_ (fun r hr=>Ok.some (fun h=>hr (dt h)))
 refine Ok.bind (Q:=fun z=>match z with | .inl _=>True | .inr _=>∃ i,0 ≤ i ∧ i < (J.length : Int) ∧ at' J i = 1) ?_ ?_
 ·unfold slices_Index_int_int.l0
  refine rounds_ok1 (fun i=>0 ≤ i ∧ i ≤ (J.length : Int)) (fun i=>((J.length : Int) - i).toNat) _ ?_ 5000 _ ⟨by omega,by omega⟩ (by omega)
  rintro next i ⟨g1,g2⟩ ih
  refine Ok.ite (fun d=>?_) (fun _=>Ok.some trivial)
  have d:=dt d
  refine Ok.gd ⟨g1,d⟩ (Ok.ite (fun c=>Ok.some ⟨i,g1,d,?_⟩) (fun _=>?_))
  ·have c : 1 = at' J i:=by simpa using c
   exact c.symm
  ·have e:=kw1 (x:=i) (by omega) (by omega)
   exact ih _ ⟨by omega,by omega⟩ (by omega)
 ·intro z hz
  cases z with
  | inl u=>exact Ok.some (fun h=>by omega)
  | inr i=>exact Ok.some (fun _=>hz)
theorem swap2_ok (p0 p1 p2 p3 p4 p5 p6 p7 p8 p9 : Int) (hm : may0 p0 p1 p2 p3 p4 p5 p6 p7 p8 p9) {J : List Int} (hJ : Jn p0 p1 p2 p3 p4 p5 p6 p7 p8 p9 J) {P : List (List (List Int))} (hP : Cd p2 p4 p3 P) (S : List (List Int)) (Q : List (List (List Int))) : Ok (fun r=>Cd p2 p4 p3 r) (subband_Params_swapped_2 5000 P J S Q):=by
 have h3 : p3 = 4 ∨ p3 = 8:=hm.1.2.2.2.2.1
 have h4 : p4 = 4 ∨ p4 = 8 ∨ p4 = 12 ∨ p4 = 16:=hm.1.2.2.2.2.2.1
 have h6 : p6 = 0 ∨ (p6 = 1 ∧ p2 = 2):=hm.1.2.2.2.2.2.2.2.1
 have hJ1:=hJ.1
 refine Ok.bind (contains_ok (by omega)) ?_
 intro r hr
 refine Ok.ite (fun _=>Ok.some hP) (fun c=>?_)
 obtain ⟨i,i0,i1,hi⟩:=hr (by simpa using c)
 have h2 : p2 = 2:=by
  rcases hJ.2 i i0 (by omega) with h | h
  ·omega
  ·omega
 have hP1:=hP.1
 have q0:=hP.2 0 (by omega) (by omega)
 have q1:=hP.2 1 (by omega) (by omega)
 refine Ok.gd (by omega) (Ok.gd (by omega) (Ok.bind (pairs_ok (M:=p4) (B:=p3) q0 q1 (by omega) (by omega) (by omega) (by omega)) ?_))
 rintro ⟨x,y,e⟩ ⟨hx,hy⟩
 refine Ok.gd (by omega) (Ok.bind (cln_ok (M:=p4) (B:=p3) q0 (by omega) (by omega) (by omega) (by omega)) ?_)
 intro X hX
 refine Ok.gd (by omega) (Ok.bind (cln_ok (M:=p4) (B:=p3) q1 (by omega) (by omega) (by omega) (by omega)) ?_)
 intro Y hY
 refine Ok.bind (Q:=fun r=>Sh p4 p3 r.1 ∧ Sh p4 p3 r.2) (Ok.bind (Q:=fun r=>Sh p4 p3 r.1 ∧ Sh p4 p3 r.2) ?_ (fun r hr=>Ok.some hr)) ?_
 ·unfold subband_Params_each_2.l0
  refine rounds_ok3 (fun b X Y=>0 ≤ b ∧ b ≤ p3 ∧ Sh p4 p3 X ∧ Sh p4 p3 Y) (fun b _ _=>(p3 - b).toNat) _ ?_ 5000 _ _ _ ⟨by omega,by omega,hX,hY⟩ (by omega)
  rintro next b X Y ⟨g1,g2,g3,g4⟩ ih
  refine Ok.ite (fun d=>?_) (fun _=>Ok.some ⟨g3,g4⟩)
  have d:=dt d
  refine Ok.bind (Q:=fun r=>Sh p4 p3 r.1 ∧ Sh p4 p3 r.2) (Ok.gd ⟨g1,d⟩ (Ok.ite (fun _=>Ok.bind (swap1_ok hx hy g3 g4 (by omega) (by omega) g1 (by omega)) (fun r hr=>Ok.some hr)) (fun _=>Ok.some ⟨g3,g4⟩))) ?_
  rintro ⟨X',Y'⟩ ⟨e1,e2⟩
  have e:=kw1 (x:=b) (by omega) (by omega)
  exact ih _ _ _ ⟨by omega,by omega,e1,e2⟩ (by omega)
 ·rintro ⟨X',Y'⟩ ⟨e1,e2⟩
  refine Ok.some ⟨by show (2 : Int) = _; omega,fun c c0 c1=>?_⟩
  have : c = 0 ∨ c = 1:=by omega
  rcases this with rfl | rfl
  ·exact e1
  ·exact e2
theorem planes_ok (p0 p1 p2 p3 p4 p5 p6 p7 p8 p9 : Int) (hm : may0 p0 p1 p2 p3 p4 p5 p6 p7 p8 p9) {J : List Int} {S : List (List Int)} {Q : List (List (List Int))} {sh : List (List Int)} (hv : Val p0 p1 p2 p3 p4 p5 p6 p7 p8 p9 J S Q sh) (hs : subband_Params_share 5000 p0 p1 p2 p3 p4 p5 p6 p7 p8 p9 J S Q = some (sh,true)) : Ok (fun r=>r.2 = 0 ∧ Cd p2 p4 p3 r.1) (subband_Planes 5000 p0 p1 p2 p3 p4 p5 p6 p7 p8 p9 J S Q):=by
 obtain ⟨hf,hj,hq,hsh,_⟩:=hv
 have h2:=(fit hf).2.1
 have h3:=(fit hf).2.2.1
 have h4 : p4 = 4 ∨ p4 = 8 ∨ p4 = 12 ∨ p4 = 16:=hm.1.2.2.2.2.2.1
 have hQ:=hq.1
 have hS1:=hf.2.1
 have hs1:=hsh.1
 refine Ok.bind (Ok.is ((smay_w p0 p1 p2 p3 p4 p5 p6 p7 p8 p9).trans (by rw [if_pos hm]))) ?_
 rintro _ rfl
 refine Ok.ite (fun h=>by cases h) (fun _=>Ok.bind (Ok.is hs) ?_)
 rintro _ rfl
 refine Ok.ite (fun h=>by cases h) (fun _=>Ok.gd ⟨by omega,by omega,by omega⟩ ?_)
 have hrep : ((List.replicate (Int.toNat p2) ([] : List (List Int))).length : Int) = p2:=by simp; omega
 rw [hrep]
 refine Ok.bind (Q:=fun P=>Cd p2 p4 p3 P) ?_ ?_
 ·unfold subband_Planes.l0
  refine rounds_ok2 (fun c P=>0 ≤ c ∧ c ≤ p2 ∧ (P.length : Int) = p2 ∧ (∀ q,0 ≤ q → q < c → Sh p4 p3 (blk P q)) ∧ ∀ q,c ≤ q → blk P q = []) (fun c _=>(p2 - c).toNat) _ ?_ 5000 _ _ ⟨by omega,by omega,hrep,fun q _ _=>by omega,fun q q0=>?_⟩ (by omega)
  ·rintro next c P ⟨g1,g2,g3,g4,g5⟩ ih
   refine Ok.ite (fun d=>?_) (fun d=>Ok.some ⟨g3,fun q q0 q1=>g4 q q0 (by have:=df d; omega)⟩)
   have d:=dt d
   refine Ok.bind (Q:=fun P=>(P.length : Int) = p2 ∧ (∀ q,0 ≤ q → q < c + 1 → Sh p4 p3 (blk P q)) ∧ ∀ q,c + 1 ≤ q → blk P q = []) ?_ ?_
   ·unfold subband_Planes.l1
    refine rounds_ok2 (fun i P=>0 ≤ i ∧ i ≤ p4 ∧ (P.length : Int) = p2 ∧ (∀ q,0 ≤ q → q < c → Sh p4 p3 (blk P q)) ∧ Sh i p3 (blk P c) ∧ ∀ q,c + 1 ≤ q → blk P q = []) (fun i _=>(p4 - i).toNat) _ ?_ 5000 _ _ ⟨by omega,by omega,g3,g4,by rw [g5 c (by omega)]; exact ⟨rfl,fun q _ _=>by omega⟩,fun q hq=>g5 q (by omega)⟩ (by omega)
    rintro next2 i P ⟨f1,f2,f3,f4,f5,f6⟩ ih2
    refine Ok.ite (fun d2=>?_) (fun d2=>?_)
    ·have d2:=dt d2
     have hb:=hq.2 i f1 (by omega)
     have hb1:=hb.1
     have hr:=hb.2 c g1 d
     have hS:=(hf.2.2 c g1 d).1
     have hsr:=hsh.2 c g1 d
     refine Ok.gd ⟨f1,d2⟩ (Ok.gd ⟨g1,by show c < ((blk Q i).length : Int); omega⟩ (Ok.bind (Q:=fun l=>(l.length : Int) = p3) ?_ ?_))
     ·unfold subband_Planes.l2
      refine rounds_ok2 (fun b l=>0 ≤ b ∧ b ≤ p3 ∧ (l.length : Int) = b) (fun b _=>(p3 - b).toNat) _ ?_ 5000 _ _ ⟨by omega,by omega,rfl⟩ (by omega)
      rintro next3 b l ⟨e1,e2,e3⟩ ih3
      refine Ok.ite (fun d3=>?_) (fun d3=>Ok.some ?_)
      ·have d3 : b < ((row (blk Q i) c).length : Int):=dt d3
       refine Ok.gd ⟨e1,d3⟩ (Ok.gd ⟨g1,by omega⟩ (Ok.gd ⟨e1,by show b < ((row S c).length : Int); omega⟩ (Ok.gd ⟨g1,by omega⟩ (Ok.gd ⟨e1,by show b < ((row sh c).length : Int); omega⟩ (Ok.bind (level_ok _ _ _) ?_)))))
       rintro ⟨v,w⟩ _
       refine Ok.gd (by show ((l.length : Int) + 1) * 4 ≤ _; omega) ?_
       have e:=kw1 (x:=b) (by omega) (by omega)
       exact ih3 _ _ ⟨by omega,by omega,by rw [List.length_append]; show (((l.length + 1 : Nat)) : Int) = _; omega⟩ (by omega)
      ·have d3 : ¬ b < ((row (blk Q i) c).length : Int):=df d3
       omega
     ·intro l hl
      have f51 : ((P.getD c.toNat []).length : Int) = i:=f5.1
      refine Ok.gd ⟨g1,by omega,by omega⟩ (Ok.gd ⟨by show (((P.getD c.toNat []).length : Int) + 1) * 24 ≤ _; omega,g1,by omega,by omega⟩ ?_)
      have e : kwrap .i64 (i + 1) = i + 1:=kw1 (by omega) (by omega)
      dsimp only
      rw [e]
      refine ih2 _ _ ⟨by omega,by omega,by rw [List.length_set]; exact f3,fun q q0 q1=>?_,?_,fun q hq=>?_⟩ (by omega)
      ·rw [blk_set g1 (by omega) q0,if_neg (by omega)]; exact f4 q q0 q1
      ·rw [blk_set g1 (by omega) g1,if_pos rfl]
       refine ⟨by rw [List.length_append]; show ((((P.getD c.toNat []).length + 1 : Nat)) : Int) = _; omega,fun q q0 q1=>?_⟩
       rw [row_app q0 (by omega),f51]
       by_cases e2 : q = i
       ·rw [if_pos e2]; exact hl
       ·rw [if_neg e2]; exact f5.2 q q0 (by omega)
      ·rw [blk_set g1 (by omega) (by omega),if_neg (by omega)]; exact f6 q hq
    ·have : i = p4:=by have:=df d2; omega
     subst this
     refine Ok.some ⟨f3,fun q q0 q1=>?_,f6⟩
     by_cases e : q = c
     ·rw [e]; exact f5
     ·exact f4 q q0 (by omega)
   ·rintro P' ⟨e1,e2,e3⟩
    have e : kwrap .i64 (c + 1) = c + 1:=kw1 (by omega) (by omega)
    dsimp only
    rw [e]
    exact ih _ _ ⟨by omega,by omega,e1,e2,e3⟩ (by omega)
  ·show (List.replicate (Int.toNat p2) ([] : List (List Int))).getD q.toNat [] = []
   rw [List.getD_eq_getElem?_getD,List.getElem?_replicate]; split <;> rfl
 ·intro P hP
  refine Ok.bind (swap2_ok p0 p1 p2 p3 p4 p5 p6 p7 p8 p9 hm hj hP S Q) (fun r hr=>Ok.some ⟨rfl,hr⟩)
end Go.Fo
