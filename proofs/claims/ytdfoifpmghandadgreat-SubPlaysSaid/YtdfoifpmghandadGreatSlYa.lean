/- What fits,says the program and says the document. -/
import Derived.Test.YtdfoifpmghandadGreatSlOk
import Derived.Test.YtdfoifpmghandadGreatSlFm
namespace Go.Fo
set_option maxRecDepth 6000
theorem kw1 {x : Int} (h0 : -1000000000 ≤ x) (h1 : x ≤ 1000000000) : kwrap .i64 (x + 1) = x + 1:=kw64 (by omega) (by omega)
abbrev row (l : List (List Int)) (j : Int) : List Int:=Kd.nth (.slice (.int .i64)) l (Int.toNat j)
abbrev blk (Q : List (List (List Int))) (i : Int) : List (List Int):=Kd.nth (.slice (.slice (.int .i64))) Q (Int.toNat i)
def Sh (C B : Int) (S : List (List Int)) : Prop:=(S.length : Int) = C ∧ ∀ c,0 ≤ c → c < C → ((row S c).length : Int) = B
def Cd (M C B : Int) (Q : List (List (List Int))) : Prop:=(Q.length : Int) = M ∧ ∀ i,0 ≤ i → i < M → Sh C B (blk Q i)
theorem and_t {a b : Bool} (h : (bif a then b else false) = true) : a = true ∧ b = true:=by cases a; cases h; exact ⟨rfl,h⟩
theorem and_f {a b : Bool} (h : (bif a then b else false) = false) : a = false ∨ b = false:=by cases a; exact .inl rfl; exact .inr h
theorem or_f {a b : Bool} (h : (bif a then true else b) = false) : a = false ∧ b = false:=by cases a; exact ⟨rfl,h⟩; cases h
theorem or_t {a b : Bool} (h : (bif a then true else b) = true) : a = true ∨ b = true:=by cases a; exact .inr h; exact .inl rfl
theorem ne_f {x y : Int} (h : (x != y) = false) : x = y:=by simpa using h
theorem ne_t {x y : Int} (h : (x != y) = true) : x ≠ y:=by simpa using h
theorem refbits_ok (p0 p1 p2 p3 p4 p5 p6 p7 p8 p9 : Int) (h : subP p0 p1 p2 p3 p4 p5 p6 p7 p8 p9) : Ok (fun r=>r = bitsZ p2 p3 p4 p6 p7) (psalteryref11_Bits 5000 p0 p1 p2 p3 p4 p5 p6 p7 p8 p9):=by
 obtain ⟨q1,q2,q3,q4,q5,q6,q7,q8,_⟩:=prods p0 p1 p2 p3 p4 p5 p6 p7 p8 p9 h
 have h0:=h.1
 have h2 : p2 = 1 ∨ p2 = 2:=h.2.2.2.1
 have h6 : p6 = 0 ∨ (p6 = 1 ∧ p2 = 2):=h.2.2.2.2.2.2.2.1
 have e : (p0 == 2) = false:=by rw [h0]; rfl
 refine Ok.ite (fun c=>by rw [e] at c; cases c) (fun _=>?_)
 dsimp only
 rw [kw64 (x:=p4 * p7) (by omega) (by omega),kw64 (x:=32 + p4 * p7) (by omega) (by omega)]
 refine Ok.bind (Q:=fun r=>r = 32 + p4 * p7 + 4 * p3 * p2) ?_ ?_
 ·unfold psalteryref11_Bits.l0
  refine rounds_ok2 (fun x c=>0 ≤ c ∧ c ≤ p2 ∧ x = 32 + p4 * p7 + 4 * p3 * c) (fun _ c=>(p2 - c).toNat) _ ?_ 5000 _ _ ⟨by omega,by omega,by rw [Int.mul_zero,Int.add_zero]⟩ (by omega)
  rintro next x c ⟨g1,g2,g3⟩ ih
  refine Ok.ite (fun d=>?_) (fun d=>Ok.some ?_)
  ·have d:=dt d
   have hm : 4 * p3 * (c + 1) = 4 * p3 * c + 4 * p3:=by rw [Int.mul_add,Int.mul_one]
   have hc : c = 0 ∨ c = 1:=by omega
   have e1 : kwrap .i64 (4 * p3) = 4 * p3:=kw64 (by omega) (by omega)
   have e2 : kwrap .i64 (x + 4 * p3) = x + 4 * p3:=by rcases hc with rfl | rfl <;> exact kw64 (by omega) (by omega)
   have e3:=kw1 (x:=c) (by omega) (by omega)
   dsimp only
   rw [e1,e2,e3]
   exact ih _ _ ⟨by omega,by omega,by rw [hm]; omega⟩ (by omega)
  ·have d:=df d
   have : c = p2:=by omega
   rw [g3,this]
 ·rintro _ rfl
  refine Ok.bind (Q:=fun r=>r = bitsZ p2 p3 p4 p6 p7) (Ok.ite (fun c=>?_) (fun c=>?_)) (fun r hr=>Ok.some hr)
  ·have c : p6 = 1:=by simpa using c
   refine Ok.some ?_
   show kwrap .i64 (32 + p4 * p7 + 4 * p3 * p2 + p3) = _
   unfold bitsZ
   rw [kw64 (by omega) (by omega),c,Int.one_mul]; omega
  ·have c : ¬ p6 = 1:=by simpa using c
   refine Ok.some ?_
   have : p6 = 0:=by omega
   unfold bitsZ
   rw [this,Int.zero_mul]; omega
theorem sub_ok (p0 p1 p2 p3 p4 p5 p6 p7 p8 p9 : Int) : Ok (fun r=>r = true ↔ may0 p0 p1 p2 p3 p4 p5 p6 p7 p8 p9) (psalteryref11_Sub 5000 p0 p1 p2 p3 p4 p5 p6 p7 p8 p9):=by
 refine Ok.ite (fun c=>Ok.some ⟨fun h=>(by cases h),fun h=>?_⟩) (fun c=>?_)
 ·have a0:=h.1.1; have a8:=h.1.2.2.2.2.2.2.2.2.2.2.2.1; have a9:=h.1.2.2.2.2.2.2.2.2.2.2.2.2
  rw [a0,a8,a9] at c; cases c
 obtain ⟨c,k9⟩:=or_f c
 obtain ⟨k0,k8⟩:=or_f c
 have k0:=ne_f k0; have k8:=ne_f k8; have k9:=ne_f k9
 refine Ok.ite (fun c=>Ok.some ⟨fun h=>(by cases h),fun h=>?_⟩) (fun c=>?_)
 ·have g:=h.1
  obtain ⟨_,a1,a2,a3,_,_,a5,_⟩:=g
  rcases or_t c with c | c
  ·rcases or_t c with c | c
   ·rcases or_t c with c | c
    ·rcases or_t c with c | c
     ·rcases or_t c with c | c
      ·have:=dt c; omega
      ·have:=dt c; omega
     ·have:=dt c; omega
    ·have:=dt c; omega
   ·have:=dt c; omega
  ·have:=dt c; omega
 obtain ⟨c,x6⟩:=or_f c
 obtain ⟨c,x5⟩:=or_f c
 obtain ⟨c,x4⟩:=or_f c
 obtain ⟨c,x3⟩:=or_f c
 obtain ⟨x1,x2⟩:=or_f c
 have x1:=df x1; have x2:=df x2; have x3:=df x3; have x4:=df x4; have x5:=df x5; have x6:=df x6
 refine Ok.ite (fun c=>Ok.some ⟨fun h=>(by cases h),fun h=>?_⟩) (fun c=>?_)
 ·obtain ⟨_,_,_,_,a3,a4,_⟩:=h.1
  rcases or_t c with c | c
  ·obtain ⟨c1,c2⟩:=and_t c
   have c1:=ne_t c1; have c2:=ne_t c2; omega
  ·obtain ⟨c,c4⟩:=and_t c
   obtain ⟨c,c3⟩:=and_t c
   obtain ⟨c1,c2⟩:=and_t c
   have c1:=ne_t c1; have c2:=ne_t c2; have c3:=ne_t c3; have c4:=ne_t c4; omega
 obtain ⟨y3,y4⟩:=or_f c
 have y3 : p3 = 4 ∨ p3 = 8:=by
  rcases and_f y3 with c | c
  ·exact .inl (ne_f c)
  ·exact .inr (ne_f c)
 have y4 : p4 = 4 ∨ p4 = 8 ∨ p4 = 12 ∨ p4 = 16:=by
  rcases and_f y4 with c | c
  ·rcases and_f c with c | c
   ·rcases and_f c with c | c
    ·exact .inl (ne_f c)
    ·exact .inr (.inl (ne_f c))
   ·exact .inr (.inr (.inl (ne_f c)))
  ·exact .inr (.inr (.inr (ne_f c)))
 refine Ok.ite (fun c=>Ok.some ⟨fun h=>(by cases h),fun h=>?_⟩) (fun c=>?_)
 ·obtain ⟨_,_,_,_,_,_,_,a6,_⟩:=h.1
  obtain ⟨c1,c2⟩:=and_t c
  have c1:=ne_t c1
  rcases or_t c2 with c | c
  ·have:=ne_t c; omega
  ·have:=ne_t c; omega
 have y6 : p6 = 0 ∨ (p6 = 1 ∧ p2 = 2):=by
  rcases and_f c with c | c
  ·exact .inl (ne_f c)
  ·obtain ⟨c1,c2⟩:=or_f c
   exact .inr ⟨ne_f c1,ne_f c2⟩
 have k28 : kwrap .i64 (kwrap .i64 (16 * p3) * p2) = 16 * p3 * p2:=by
  rw [kw64 (x:=16 * p3) (by omega) (by omega)]
  rcases (show p2 = 1 ∨ p2 = 2 by omega) with rfl | rfl <;> exact kw64 (by omega) (by omega)
 refine Ok.bind (Q:=fun r=>r = true ↔ may0 p0 p1 p2 p3 p4 p5 p6 p7 p8 p9) ?_ (fun r hr=>Ok.some hr)
 dsimp only
 rw [k28]
 refine Ok.ite (fun c=>?_) (fun c=>Ok.some ⟨fun h=>(by cases h),fun h=>?_⟩)
 ·obtain ⟨c,c3⟩:=and_t c
  obtain ⟨c1,c2⟩:=and_t c
  have c1:=dt c1; have c2:=dt c2; have c3:=dt c3
  have hs : subP p0 p1 p2 p3 p4 p5 p6 p7 p8 p9:=⟨k0,by omega,by omega,by omega,y3,y4,by omega,y6,c1,c2,c3,k8,k9⟩
  refine Ok.bind (refbits_ok p0 p1 p2 p3 p4 p5 p6 p7 p8 p9 hs) ?_
  rintro _ rfl
  exact Ok.some ⟨fun h=>⟨hs,dt h⟩,fun h=>decide_eq_true h.2⟩
 ·obtain ⟨_,_,_,_,_,_,_,_,b1,b2,b3,_⟩:=h.1
  rw [decide_eq_true (by omega : p7 ≥ 2),decide_eq_true (by omega : p7 ≤ 250),decide_eq_true b3] at c
  cases c

theorem fit1_iff (p0 p1 p2 p3 p4 p5 p6 p7 p8 p9 : Int) {X : List (List Int)} (hX : X.length ≤ 40) : Ok (fun r=>r = true ↔ Sh p4 p3 X) (subband_fits_1 5000 X p0 p1 p2 p3 p4 p5 p6 p7 p8 p9):=by
 refine Ok.bind (Q:=fun r=>r = true ↔ Sh p4 p3 X) ?_ (fun r hr=>Ok.some hr)
 refine Ok.bind (Q:=fun r=>r = true ↔ Sh p4 p3 X) ?_ (fun r hr=>Ok.some hr)
 refine Ok.ite (fun c=>?_) (fun c=>Ok.some ⟨fun h=>(by cases h),fun h=>by rw [beq_eq_false_iff_ne] at c; exact absurd h.1 c⟩)
 have c : (X.length : Int) = p4:=by simpa using c
 refine Ok.bind (Q:=fun r=>r = false ↔ Sh p4 p3 X) ?_ (fun r hr=>Ok.some (by rw [← hr]; simp))
 refine Ok.bind (Q:=fun r=>r < 0 ↔ Sh p4 p3 X) ?_ (fun r hr=>Ok.some (by rw [← hr,decide_eq_false_iff_not]; omega))
 refine Ok.bind (Q:=fun z=>match z with | .inl _=>Sh p4 p3 X | .inr i=>0 ≤ i ∧ ¬ Sh p4 p3 X) ?_ ?_
 ·unfold slices_IndexFunc_int32_int32.l0
  refine rounds_ok1 (fun i=>0 ≤ i ∧ i ≤ (X.length : Int) ∧ ∀ q,0 ≤ q → q < i → ((row X q).length : Int) = p3) (fun i=>((X.length : Int) - i).toNat) _ ?_ 5000 _ ⟨by omega,by omega,fun q _ _=>by omega⟩ (by omega)
  rintro next i ⟨h1,h2,h3⟩ ih
  refine Ok.ite (fun d=>?_) (fun d=>Ok.some ⟨c,fun q q0 q1=>h3 q q0 (by have:=df d; omega)⟩)
  have d:=dt d
  refine Ok.gd ⟨h1,d⟩ (Ok.bind (Q:=fun r=>r = false ↔ ((row X i).length : Int) = p3) (Ok.bind (Q:=fun r=>r = true ↔ ((row X i).length : Int) = p3) (Ok.some (by show (((row X i).length : Int) == p3) = true ↔ _; rw [beq_iff_eq])) (fun r hr=>Ok.some (by rw [← hr]; simp))) ?_)
  intro r hr
  refine Ok.ite (fun c2=>Ok.some ⟨h1,fun hj=>?_⟩) (fun c2=>?_)
  ·have:=hr.2 (hj.2 i h1 (by omega))
   rw [c2] at this; cases this
  ·have e:=kw1 (x:=i) (by omega) (by omega)
   refine ih _ ⟨by omega,by omega,fun q q0 q1=>?_⟩ (by omega)
   by_cases e2 : q = i
   ·rw [e2]; exact hr.1 c2
   ·exact h3 q q0 (by omega)
 ·intro z hz
  cases z with
  | inl u=>exact Ok.some ⟨fun _=>hz,fun _=>by decide⟩
  | inr i=>exact Ok.some ⟨fun h=>by have : 0 ≤ i:=hz.1; omega,fun h=>absurd h hz.2⟩
theorem fits_iff (p0 p1 p2 p3 p4 p5 p6 p7 p8 p9 : Int) {P : List (List (List Int))} (hL : P.length ≤ 10) (hB : ∀ i,0 ≤ i → i < (P.length : Int) → (blk P i).length ≤ 40) : Ok (fun r=>r = true ↔ Cd p2 p4 p3 P) (subband_fits 5000 p0 p1 p2 p3 p4 p5 p6 p7 p8 p9 P):=by
 refine Ok.bind (Q:=fun r=>r = true ↔ Cd p2 p4 p3 P) ?_ (fun r hr=>Ok.some hr)
 refine Ok.bind (Q:=fun r=>r = true ↔ Cd p2 p4 p3 P) ?_ (fun r hr=>Ok.some hr)
 refine Ok.ite (fun c=>?_) (fun c=>Ok.some ⟨fun h=>(by cases h),fun h=>by rw [beq_eq_false_iff_ne] at c; exact absurd h.1 c⟩)
 have c : (P.length : Int) = p2:=by simpa using c
 refine Ok.bind (Q:=fun r=>r = false ↔ Cd p2 p4 p3 P) ?_ (fun r hr=>Ok.some (by rw [← hr]; simp))
 refine Ok.bind (Q:=fun r=>r < 0 ↔ Cd p2 p4 p3 P) ?_ (fun r hr=>Ok.some (by rw [← hr,decide_eq_false_iff_not]; omega))
 refine Ok.bind (Q:=fun z=>match z with | .inl _=>Cd p2 p4 p3 P | .inr i=>0 ≤ i ∧ ¬ Cd p2 p4 p3 P) ?_ ?_
 ·unfold slices_IndexFunc_int32_int32_2.l0
  refine rounds_ok1 (fun i=>0 ≤ i ∧ i ≤ (P.length : Int) ∧ ∀ q,0 ≤ q → q < i → Sh p4 p3 (blk P q)) (fun i=>((P.length : Int) - i).toNat) _ ?_ 5000 _ ⟨by omega,by omega,fun q _ _=>by omega⟩ (by omega)
  rintro next i ⟨h1,h2,h3⟩ ih
  refine Ok.ite (fun d=>?_) (fun d=>Ok.some ⟨c,fun q q0 q1=>h3 q q0 (by have:=df d; omega)⟩)
  have d:=dt d
  refine Ok.gd ⟨h1,d⟩ (Ok.bind (Q:=fun r=>r = false ↔ Sh p4 p3 (blk P i)) (Ok.bind (fit1_iff p0 p1 p2 p3 p4 p5 p6 p7 p8 p9 (hB i h1 d)) (fun r hr=>Ok.some (by rw [← show (r = true ↔ Sh p4 p3 (blk P i)) from hr]; simp))) ?_)
  intro r hr
  refine Ok.ite (fun c2=>Ok.some ⟨h1,fun hj=>?_⟩) (fun c2=>?_)
  ·have:=hr.2 (hj.2 i h1 (by omega))
   rw [c2] at this; cases this
  ·have e:=kw1 (x:=i) (by omega) (by omega)
   refine ih _ ⟨by omega,by omega,fun q q0 q1=>?_⟩ (by omega)
   by_cases e2 : q = i
   ·rw [e2]; exact hr.1 c2
   ·exact h3 q q0 (by omega)
 ·intro z hz
  cases z with
  | inl u=>exact Ok.some ⟨fun _=>hz,fun _=>by decide⟩
  | inr i=>exact Ok.some ⟨fun h=>by have : 0 ≤ i:=hz.1; omega,fun h=>absurd h hz.2⟩
theorem rfits_iff (p0 p1 p2 p3 p4 p5 p6 p7 p8 p9 : Int) {P : List (List (List Int))} (hL : P.length ≤ 10) (hB : ∀ i,0 ≤ i → i < (P.length : Int) → (blk P i).length ≤ 40) : Ok (fun r=>r = true ↔ Cd p2 p4 p3 P) (psalteryref14_Fits 5000 p0 p1 p2 p3 p4 p5 p6 p7 p8 p9 P):=by
 refine Ok.ite (fun c=>Ok.some ⟨fun h=>(by cases h),fun h=>absurd h.1 (ne_t c)⟩) (fun c=>?_)
 have c : (P.length : Int) = p2:=ne_f c
 refine Ok.bind (Q:=fun z=>match z with | .inl _=>Cd p2 p4 p3 P | .inr r=>r = false ∧ ¬ Cd p2 p4 p3 P) ?_ ?_
 ·unfold psalteryref14_Fits.l0
  refine rounds_ok1 (fun i=>0 ≤ i ∧ i ≤ (P.length : Int) ∧ ∀ q,0 ≤ q → q < i → Sh p4 p3 (blk P q)) (fun i=>((P.length : Int) - i).toNat) _ ?_ 5000 _ ⟨by omega,by omega,fun q _ _=>by omega⟩ (by omega)
  rintro next i ⟨h1,h2,h3⟩ ih
  refine Ok.ite (fun d=>?_) (fun d=>Ok.some ⟨c,fun q q0 q1=>h3 q q0 (by have:=df d; omega)⟩)
  have d:=dt d
  have hb:=hB i h1 d
  refine Ok.gd ⟨h1,d⟩ (Ok.ite (fun c2=>Ok.some ⟨rfl,fun hc=>ne_t c2 (hc.2 i h1 (by omega)).1⟩) (fun c2=>?_))
  have c2 : ((blk P i).length : Int) = p4:=ne_f c2
  refine Ok.bind (Q:=fun z=>match z with | .inl _=>Sh p4 p3 (blk P i) | .inr r=>r = false ∧ ¬ Sh p4 p3 (blk P i)) ?_ ?_
  ·unfold psalteryref14_Fits.l1
   refine rounds_ok1 (fun j=>0 ≤ j ∧ j ≤ p4 ∧ ∀ q,0 ≤ q → q < j → ((row (blk P i) q).length : Int) = p3) (fun j=>(p4 - j).toNat) _ ?_ 5000 _ ⟨by omega,by omega,fun q _ _=>by omega⟩ (by omega)
   rintro next2 j ⟨f1,f2,f3⟩ ih2
   refine Ok.ite (fun d2=>?_) (fun d2=>Ok.some ⟨c2,fun q q0 q1=>f3 q q0 (by have:=df d2; omega)⟩)
   have d2:=dt d2
   refine Ok.gd ⟨h1,d⟩ (Ok.gd ⟨f1,by show j < ((blk P i).length : Int); omega⟩ (Ok.ite (fun c3=>Ok.some ⟨rfl,fun hs=>ne_t c3 (hs.2 j f1 d2)⟩) (fun c3=>?_)))
   have e:=kw1 (x:=j) (by omega) (by omega)
   refine ih2 _ ⟨by omega,by omega,fun q q0 q1=>?_⟩ (by omega)
   by_cases e2 : q = j
   ·rw [e2]; exact ne_f c3
   ·exact f3 q q0 (by omega)
  ·intro z hz
   cases z with
   | inl u =>
    have e:=kw1 (x:=i) (by omega) (by omega)
    refine ih _ ⟨by omega,by omega,fun q q0 q1=>?_⟩ (by omega)
    by_cases e2 : q = i
    ·rw [e2]; exact hz
    ·exact h3 q q0 (by omega)
   | inr r=>exact Ok.some ⟨hz.1,fun hc=>hz.2 (hc.2 i h1 (by omega))⟩
 ·intro z hz
  cases z with
  | inl u=>exact Ok.some ⟨fun _=>hz,fun _=>rfl⟩
  | inr r=>exact Ok.some ⟨fun h=>(by rw [hz.1] at h; cases h),fun h=>absurd h hz.2⟩
theorem far1_ok (X : List (List Int)) : Ok (fun r=>r = false → X.length ≤ 40) (psalteryref13_Far 5000 X):=by
 refine Ok.ite (fun _=>Ok.some (fun h=>by cases h)) (fun c=>?_)
 have c:=df c
 refine Ok.bind (Q:=fun _=>True) ?_ (fun z _=>by
  cases z with
  | inl u=>exact Ok.some (fun _=>by omega)
  | inr r=>exact Ok.some (fun _=>by omega))
 unfold psalteryref13_Far.l0
 refine rounds_ok1 (fun i=>0 ≤ i ∧ i ≤ (X.length : Int)) (fun i=>((X.length : Int) - i).toNat) _ ?_ 5000 _ ⟨by omega,by omega⟩ (by omega)
 rintro next i ⟨h1,h2⟩ ih
 refine Ok.ite (fun d=>?_) (fun _=>Ok.some trivial)
 have d:=dt d
 refine Ok.gd ⟨h1,d⟩ (Ok.ite (fun _=>Ok.some trivial) (fun _=>?_))
 have e:=kw1 (x:=i) (by omega) (by omega)
 exact ih _ ⟨by omega,by omega⟩ (by omega)
theorem far_ok (P : List (List (List Int))) : Ok (fun r=>r = false → P.length ≤ 10 ∧ ∀ i,0 ≤ i → i < (P.length : Int) → (blk P i).length ≤ 40) (psalteryref14_FarPlanes 5000 P):=by
 refine Ok.ite (fun _=>Ok.some (fun h=>by cases h)) (fun c=>?_)
 have c:=df c
 refine Ok.bind (Q:=fun z=>match z with | .inl _=>∀ i,0 ≤ i → i < (P.length : Int) → (blk P i).length ≤ 40 | .inr r=>r = true) ?_ ?_
 ·unfold psalteryref14_FarPlanes.l0
  refine rounds_ok1 (fun i=>0 ≤ i ∧ i ≤ (P.length : Int) ∧ ∀ q,0 ≤ q → q < i → (blk P q).length ≤ 40) (fun i=>((P.length : Int) - i).toNat) _ ?_ 5000 _ ⟨by omega,by omega,fun q _ _=>by omega⟩ (by omega)
  rintro next i ⟨h1,h2,h3⟩ ih
  refine Ok.ite (fun d=>?_) (fun d=>Ok.some (fun q q0 q1=>h3 q q0 (by have:=df d; omega)))
  have d:=dt d
  refine Ok.gd ⟨h1,d⟩ (Ok.bind (far1_ok (blk P i)) ?_)
  intro r hr
  refine Ok.ite (fun _=>Ok.some rfl) (fun c2=>?_)
  have e:=kw1 (x:=i) (by omega) (by omega)
  refine ih _ ⟨by omega,by omega,fun q q0 q1=>?_⟩ (by omega)
  by_cases e2 : q = i
  ·rw [e2]; exact hr c2
  ·exact h3 q q0 (by omega)
 ·intro z hz
  cases z with
  | inl u=>exact Ok.some (fun _=>⟨by omega,hz⟩)
  | inr r=>exact Ok.some (fun h=>by rw [show r = true from hz] at h; cases h)
end Go.Fo
