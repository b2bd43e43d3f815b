/- The formats of Sub: what may be. -/
import Derived.Test.YtdfoifpmghandadGreatSlF
import Derived.Test.YtdfoifpmghandadGreatJ3
namespace Go.Fo
def w (a b c : Int) : Bool:=decide (b ≤ a) && decide (a ≤ c)
theorem within_w (a b c : Int) : format_within 5000 a b c = some (w a b c):=by
 unfold w; simp only [format_within]; by_cases h : b ≤ a <;> simp [h]
theorem all_2 : ∀ a b : Bool,format_all 5000 [a,b] = some (a && b):=by intro a b; cases a <;> cases b <;> rfl
theorem all_3 : ∀ a b c : Bool,format_all 5000 [a,b,c] = some (a && (b && c)):=by intro a b c; cases a <;> cases b <;> cases c <;> rfl
theorem all_6 : ∀ a b c d e f : Bool,format_all 5000 [a,b,c,d,e,f] = some (a && (b && (c && (d && (e && f))))):=by intro a b c d e f; cases a <;> cases b <;> cases c <;> cases d <;> cases e <;> cases f <;> rfl
def may (n : Int) : Bool:=(n == 40) || ((n == 60) || ((n == 80) || (n == 120)))
theorem idx_step (l : List Int) (n c : Int) (m : Nat) (i : Int) (h0 : 0 ≤ i) (h1 : i < c) (h2 : c = (l.length : Int)) (h3 : c ≤ 1000) (hn : (n == Kd.nth (.int .i64) l (Int.toNat i)) = false) : slices_Index_int_int.l0 5000 l n c (m + 1) i = slices_Index_int_int.l0 5000 l n c m (i + 1):=by
 show slices_Index_int_int.r0 5000 l n c (slices_Index_int_int.l0 5000 l n c m) i = _
 refine bif_eq_t (decide_eq_true h1) (gd_eq ⟨h0,by omega⟩ (bif_eq_f hn ?_))
 rw [kw_i64 (by omega) (by omega)]
theorem lengths_w (n : Int) : slices_Contains_int_int 5000 [40,60,80,120] n = some (may n):=by
 by_cases h1 : n = 40
 ·subst h1; rfl
 by_cases h2 : n = 60
 ·subst h2; rfl
 by_cases h3 : n = 80
 ·subst h3; rfl
 by_cases h4 : n = 120
 ·subst h4; rfl
 have e1 : (n == 40) = false:=by simpa using h1
 have e2 : (n == 60) = false:=by simpa using h2
 have e3 : (n == 80) = false:=by simpa using h3
 have e4 : (n == 120) = false:=by simpa using h4
 have hm : may n = false:=by unfold may; rw [e1,e2,e3,e4]; rfl
 rw [hm]
 refine bnd_eq (x:=-1) (bnd_eq (x:=.inl ()) ?_ rfl) rfl
 show slices_Index_int_int.l0 5000 [40,60,80,120] n 4 (4999 + 1) 0 = _
 rw [idx_step [40,60,80,120] n 4 4999 0 (by decide) (by decide) rfl (by decide) e1]
 show slices_Index_int_int.l0 5000 [40,60,80,120] n 4 (4998 + 1) 1 = _
 rw [idx_step [40,60,80,120] n 4 4998 1 (by decide) (by decide) rfl (by decide) e2]
 show slices_Index_int_int.l0 5000 [40,60,80,120] n 4 (4997 + 1) 2 = _
 rw [idx_step [40,60,80,120] n 4 4997 2 (by decide) (by decide) rfl (by decide) e3]
 show slices_Index_int_int.l0 5000 [40,60,80,120] n 4 (4996 + 1) 3 = _
 rw [idx_step [40,60,80,120] n 4 4996 3 (by decide) (by decide) rfl (by decide) e4]
 rfl
def fieldsB (p0 p1 p2 p3 p4 p5 p6 p7 p8 p9 : Int) : Bool :=
  bif p0 == 1 then (w p1 0 3 && w p2 1 2) && ((bif p3 == 4 then true else p3 == 8) && ((bif Int.tmod p4 4 == 0 then w p4 4 16 else false) && (w p5 0 1 && (w p6 0 (kwrap .i64 (p2 - 1)) && (w p7 2 (imin (kwrap .i64 (kwrap .i64 (16 * p3) * p2)) 250) && (bif p8 == 0 then p9 == 0 else false))))))
  else bif p0 == 2 then (w p1 0 3 && w p2 1 2) && (may p8 && (w p9 20 120 && (bif (bif (bif (bif p3 == 0 then p4 == 0 else false) then p5 == 0 else false) then p6 == 0 else false) then p7 == 0 else false)))
  else false
theorem fields_w (p0 p1 p2 p3 p4 p5 p6 p7 p8 p9 : Int) : format_fields 5000 p0 p1 p2 p3 p4 p5 p6 p7 p8 p9 = some (fieldsB p0 p1 p2 p3 p4 p5 p6 p7 p8 p9):=by
 refine bnd_eq (within_w p1 0 3) (bnd_eq (within_w p2 1 2) (bnd_eq (all_2 _ _) ?_))
 unfold fieldsB
 generalize (w p1 0 3 && w p2 1 2) = q
 rcases Bool.eq_false_or_eq_true (p0 == 1) with e | e
 ·refine bif_eq_t e ?_
  rw [e]
  cases q with
  | false=>rfl
  | true =>
   rcases Bool.eq_false_or_eq_true (Int.tmod p4 4 == 0) with e4 | e4
   ·refine bnd_eq (bif_eq_t rfl (bif_eq_t e4 (bnd_eq (within_w _ _ _) (bnd_eq (within_w _ _ _) (bnd_eq (within_w _ _ _) (bnd_eq (within_w _ _ _) (bnd_eq (all_6 _ _ _ _ _ _) rfl))))))) rfl
   ·refine (bnd_eq (bif_eq_t rfl (bif_eq_f e4 (bnd_eq (within_w _ _ _) (bnd_eq (within_w _ _ _) (bnd_eq (within_w _ _ _) (bnd_eq (all_6 _ _ _ _ _ _) rfl)))))) rfl).trans ?_
    rw [e4]; rfl
 ·refine bif_eq_f e ?_
  rw [e]
  rcases Bool.eq_false_or_eq_true (p0 == 2) with e' | e'
  ·refine bif_eq_t e' ?_
   rw [e']
   cases q with
   | false=>rfl
   | true=>exact bnd_eq (bif_eq_t rfl (bnd_eq rfl (bnd_eq (lengths_w _) (bnd_eq (within_w _ _ _) (bnd_eq (all_3 _ _ _) rfl))))) rfl
  ·refine bif_eq_f e' ?_
   rw [e']; rfl
def subP (p0 p1 p2 p3 p4 p5 p6 p7 p8 p9 : Int) : Prop:=p0 = 1 ∧ 0 ≤ p1 ∧ p1 ≤ 3 ∧ (p2 = 1 ∨ p2 = 2) ∧ (p3 = 4 ∨ p3 = 8) ∧ (p4 = 4 ∨ p4 = 8 ∨ p4 = 12 ∨ p4 = 16) ∧ (p5 = 0 ∨ p5 = 1) ∧ (p6 = 0 ∨ (p6 = 1 ∧ p2 = 2)) ∧ 2 ≤ p7 ∧ p7 ≤ 250 ∧ p7 ≤ 16 * p3 * p2 ∧ p8 = 0 ∧ p9 = 0
def lapP (p0 p1 p2 p3 p4 p5 p6 p7 p8 p9 : Int) : Prop:=p0 = 2 ∧ 0 ≤ p1 ∧ p1 ≤ 3 ∧ (p2 = 1 ∨ p2 = 2) ∧ (p8 = 40 ∨ p8 = 60 ∨ p8 = 80 ∨ p8 = 120) ∧ 20 ≤ p9 ∧ p9 ≤ 120 ∧ p3 = 0 ∧ p4 = 0 ∧ p5 = 0 ∧ p6 = 0 ∧ p7 = 0
instance (p0 p1 p2 p3 p4 p5 p6 p7 p8 p9 : Int) : Decidable (subP p0 p1 p2 p3 p4 p5 p6 p7 p8 p9):=by unfold subP; infer_instance
instance (p0 p1 p2 p3 p4 p5 p6 p7 p8 p9 : Int) : Decidable (lapP p0 p1 p2 p3 p4 p5 p6 p7 p8 p9):=by unfold lapP; infer_instance
theorem fields_iff (p0 p1 p2 p3 p4 p5 p6 p7 p8 p9 : Int) : fieldsB p0 p1 p2 p3 p4 p5 p6 p7 p8 p9 = true ↔ subP p0 p1 p2 p3 p4 p5 p6 p7 p8 p9 ∨ lapP p0 p1 p2 p3 p4 p5 p6 p7 p8 p9:=by
 have hk : ∀ a b : Int,(a = 4 ∨ a = 8) → (b = 1 ∨ b = 2) → kwrap .i64 (kwrap .i64 (16 * a) * b) = 16 * a * b ∧ kwrap .i64 (b - 1) = b - 1:=by
  rintro a b (rfl | rfl) (rfl | rfl) <;> exact ⟨rfl,rfl⟩
 unfold fieldsB
 rcases Bool.eq_false_or_eq_true (p0 == 1) with e | e
 ·rw [e,cond_true]
  have e1 : p0 = 1:=by simpa using e
  simp only [w,Bool.and_eq_true,Bool.or_eq_true,decide_eq_true_eq,Bool.cond_true_left,Bool.cond_false_right,beq_iff_eq]
  constructor
  ·rintro ⟨⟨⟨a1,a2⟩,a3,a4⟩,b1,b2,⟨c1,c2⟩,⟨d1,d2⟩,⟨f1,f2⟩,g⟩
   left
   have h2 : p2 = 1 ∨ p2 = 2:=by omega
   have h3 : p3 = 4 ∨ p3 = 8:=b1
   obtain ⟨k1,k2⟩:=hk p3 p2 h3 h2
   rw [k1] at f2; rw [k2] at d2
   have b2':=b2
   have g':=g
   have f2' : p7 ≤ 16 * p3 * p2 ∧ p7 ≤ 250:=by unfold imin at f2; split at f2 <;> omega
   have h4 : p4 % 4 = 0:=by have:=b2'.1; rw [Int.tmod_eq_emod_of_nonneg (by omega)] at this; exact this
   refine ⟨e1,a1,a2,h2,h3,by omega,by omega,by omega,f1,f2'.2,f2'.1,g'⟩
  ·rintro (⟨_,a1,a2,h2,h3,h4,h5,h6,f1,f2,f3,g1,g2⟩ | ⟨h,_⟩)
   ·obtain ⟨k1,k2⟩:=hk p3 p2 h3 h2
    have f4 : p7 ≤ imin (kwrap .i64 (kwrap .i64 (16 * p3) * p2)) 250:=by rw [k1]; unfold imin; split <;> omega
    have d4 : p6 ≤ kwrap .i64 (p2 - 1):=by rw [k2]; omega
    refine ⟨⟨⟨a1,a2⟩,by omega,by omega⟩,h3,⟨?_,by omega,by omega⟩,⟨by omega,by omega⟩,⟨by omega,d4⟩,⟨f1,f4⟩,g1,g2⟩
    rcases h4 with rfl | rfl | rfl | rfl <;> rfl
   ·omega
 ·rw [e]
  have e1 : p0 ≠ 1:=by simpa using e
  simp only [cond_false]
  rcases Bool.eq_false_or_eq_true (p0 == 2) with e' | e'
  ·rw [e',cond_true]
   have e2 : p0 = 2:=by simpa using e'
   simp only [w,may,Bool.and_eq_true,Bool.or_eq_true,decide_eq_true_eq,beq_iff_eq,Bool.cond_false_right]
   constructor
   ·rintro ⟨⟨⟨a1,a2⟩,a3,a4⟩,b1,⟨c1,c2⟩,⟨⟨⟨d3,d4⟩,d5⟩,d6⟩,d7⟩
    right
    exact ⟨e2,a1,a2,by omega,b1,c1,c2,d3,d4,d5,d6,d7⟩
   ·rintro (⟨h,_⟩ | ⟨_,a1,a2,h2,h8,c1,c2,d3,d4,d5,d6,d7⟩)
    ·omega
    ·exact ⟨⟨⟨a1,a2⟩,by omega,by omega⟩,h8,⟨c1,c2⟩,⟨⟨⟨d3,d4⟩,d5⟩,d6⟩,d7⟩
  ·rw [e']
   have e2 : p0 ≠ 2:=by simpa using e'
   simp only [cond_false]
   constructor
   ·intro h; cases h
   ·rintro (⟨h,_⟩ | ⟨h,_⟩) <;> omega
theorem prods (p0 p1 p2 p3 p4 p5 p6 p7 p8 p9 : Int) (h : subP p0 p1 p2 p3 p4 p5 p6 p7 p8 p9) : 0 ≤ p6 * p3 ∧ p6 * p3 ≤ 8 ∧ 4 ≤ p3 ∧ p3 ≤ 8 ∧ 16 ≤ 4 * p3 * p2 ∧ 4 * p3 * p2 ≤ 64 ∧ 8 ≤ p4 * p7 ∧ p4 * p7 ≤ 4000 ∧ 16 ≤ p3 * p4 ∧ p3 * p4 ≤ 128:=by
 obtain ⟨rfl,a1,a2,h2,h3,h4,h5,h6,f1,f2,f3,g1,g2⟩:=h
 rcases h2 with rfl | rfl <;> rcases h3 with rfl | rfl <;> rcases h4 with rfl | rfl | rfl | rfl <;> rcases h6 with rfl | ⟨rfl,_⟩ <;> omega
def bitsZ (p2 p3 p4 p6 p7 : Int) : Int:=32 + p6 * p3 + 4 * p3 * p2 + p4 * p7
theorem bits_w (p0 p1 p2 p3 p4 p5 p6 p7 p8 p9 : Int) (h : subP p0 p1 p2 p3 p4 p5 p6 p7 p8 p9) : format_bits 5000 p0 p1 p2 p3 p4 p5 p6 p7 p8 p9 = some (bitsZ p2 p3 p4 p6 p7):=by
 obtain ⟨q1,q2,q3,q4,q5,q6,q7,q8,_⟩:=prods p0 p1 p2 p3 p4 p5 p6 p7 p8 p9 h
 have e : (p0 == 2) = false:=by rw [h.1]; rfl
 refine bif_eq_f e ?_
 unfold bitsZ
 dsimp only
 rw [kw_i64 (x:=p6 * p3) (by omega) (by omega),kw_i64 (x:=4 * p3) (by omega) (by omega),kw_i64 (x:=4 * p3 * p2) (by omega) (by omega),kw_i64 (x:=p4 * p7) (by omega) (by omega),kw_i64 (x:=32 + p6 * p3) (by omega) (by omega),kw_i64 (x:=32 + p6 * p3 + 4 * p3 * p2) (by omega) (by omega),kw_i64 (by omega) (by omega)]
def payZ (p2 p3 p4 p6 p7 : Int) : Int:=(bitsZ p2 p3 p4 p6 p7 + 7) / 8
theorem bitsZ_in (p0 p1 p2 p3 p4 p5 p6 p7 p8 p9 : Int) (h : subP p0 p1 p2 p3 p4 p5 p6 p7 p8 p9) : 56 ≤ bitsZ p2 p3 p4 p6 p7 ∧ bitsZ p2 p3 p4 p6 p7 ≤ 4104:=by
 obtain ⟨q1,q2,q3,q4,q5,q6,q7,q8,_⟩:=prods p0 p1 p2 p3 p4 p5 p6 p7 p8 p9 h
 unfold bitsZ; omega
theorem pay_w (p0 p1 p2 p3 p4 p5 p6 p7 p8 p9 : Int) (h : subP p0 p1 p2 p3 p4 p5 p6 p7 p8 p9) : format_payload 5000 p0 p1 p2 p3 p4 p5 p6 p7 p8 p9 = some (payZ p2 p3 p4 p6 p7):=by
 have hb:=bitsZ_in p0 p1 p2 p3 p4 p5 p6 p7 p8 p9 h
 have e : (p0 == 2) = false:=by rw [h.1]; rfl
 refine bif_eq_f e (bnd_eq (bits_w p0 p1 p2 p3 p4 p5 p6 p7 p8 p9 h) ?_)
 unfold payZ
 dsimp only
 rw [kw_i64 (x:=bitsZ p2 p3 p4 p6 p7 + 7) (by omega) (by omega),Int.tdiv_eq_ediv_of_nonneg (by omega),kw_i64 (by omega) (by omega)]
def okP (p0 p1 p2 p3 p4 p5 p6 p7 p8 p9 : Int) : Prop:=(subP p0 p1 p2 p3 p4 p5 p6 p7 p8 p9 ∧ bitsZ p2 p3 p4 p6 p7 ≤ 4096) ∨ lapP p0 p1 p2 p3 p4 p5 p6 p7 p8 p9
instance (p0 p1 p2 p3 p4 p5 p6 p7 p8 p9 : Int) : Decidable (okP p0 p1 p2 p3 p4 p5 p6 p7 p8 p9):=by unfold okP; infer_instance
theorem lappay_w (p0 p1 p2 p3 p4 p5 p6 p7 p8 p9 : Int) (h : lapP p0 p1 p2 p3 p4 p5 p6 p7 p8 p9) : format_payload 5000 p0 p1 p2 p3 p4 p5 p6 p7 p8 p9 = some (p9 * p2):=by
 obtain ⟨rfl,a1,a2,h2,h8,c1,c2,rest⟩:=h
 refine bif_eq_t rfl ?_
 rw [kw_i64 (by rcases h2 with rfl | rfl <;> omega) (by rcases h2 with rfl | rfl <;> omega)]
theorem Check_w (p0 p1 p2 p3 p4 p5 p6 p7 p8 p9 : Int) : format_Check 5000 p0 p1 p2 p3 p4 p5 p6 p7 p8 p9 = some (if okP p0 p1 p2 p3 p4 p5 p6 p7 p8 p9 then 0 else 110):=by
 have hf:=fields_iff p0 p1 p2 p3 p4 p5 p6 p7 p8 p9
 by_cases hs : subP p0 p1 p2 p3 p4 p5 p6 p7 p8 p9
 ·have hb:=bitsZ_in p0 p1 p2 p3 p4 p5 p6 p7 p8 p9 hs
  refine bnd_eq (bnd_eq ((fields_w p0 p1 p2 p3 p4 p5 p6 p7 p8 p9).trans (by rw [hf.2 (.inl hs)])) (bif_eq_f rfl (bnd_eq (pay_w p0 p1 p2 p3 p4 p5 p6 p7 p8 p9 hs) rfl))) ?_
  by_cases ho : okP p0 p1 p2 p3 p4 p5 p6 p7 p8 p9
  ·rw [if_pos ho]
   refine bif_eq_f (decide_eq_false ?_) rfl
   rcases ho with ⟨_,ho⟩ | ho
   ·unfold payZ; omega
   ·have:=hs.1; have:=ho.1; omega
  ·rw [if_neg ho]
   refine bif_eq_t (decide_eq_true ?_) rfl
   have : ¬ bitsZ p2 p3 p4 p6 p7 ≤ 4096:=fun q=>ho (.inl ⟨hs,q⟩)
   unfold payZ; omega
 ·by_cases hl : lapP p0 p1 p2 p3 p4 p5 p6 p7 p8 p9
  ·rw [if_pos (show okP p0 p1 p2 p3 p4 p5 p6 p7 p8 p9 from .inr hl)]
   refine bnd_eq (bnd_eq ((fields_w p0 p1 p2 p3 p4 p5 p6 p7 p8 p9).trans (by rw [hf.2 (.inr hl)])) (bif_eq_f rfl (bnd_eq (lappay_w p0 p1 p2 p3 p4 p5 p6 p7 p8 p9 hl) rfl))) ?_
   obtain ⟨_,a1,a2,h2,h8,c1,c2,_⟩:=hl
   refine bif_eq_f (decide_eq_false ?_) rfl
   rcases h2 with rfl | rfl <;> omega
  ·have : fieldsB p0 p1 p2 p3 p4 p5 p6 p7 p8 p9 = false:=by
    rcases Bool.eq_false_or_eq_true (fieldsB p0 p1 p2 p3 p4 p5 p6 p7 p8 p9) with e | e
    ·rcases hf.1 e with h | h
     ·exact absurd h hs
     ·exact absurd h hl
    ·exact e
   rw [if_neg (show ¬ okP p0 p1 p2 p3 p4 p5 p6 p7 p8 p9 from fun h=>h.elim (fun q=>hs q.1) hl)]
   exact bnd_eq (bnd_eq ((fields_w p0 p1 p2 p3 p4 p5 p6 p7 p8 p9).trans (by rw [this])) (bif_eq_t rfl rfl)) rfl
def may0 (p0 p1 p2 p3 p4 p5 p6 p7 p8 p9 : Int) : Prop:=subP p0 p1 p2 p3 p4 p5 p6 p7 p8 p9 ∧ bitsZ p2 p3 p4 p6 p7 ≤ 4096
instance (p0 p1 p2 p3 p4 p5 p6 p7 p8 p9 : Int) : Decidable (may0 p0 p1 p2 p3 p4 p5 p6 p7 p8 p9):=by unfold may0; infer_instance
theorem smay_w (p0 p1 p2 p3 p4 p5 p6 p7 p8 p9 : Int) : subband_may 5000 p0 p1 p2 p3 p4 p5 p6 p7 p8 p9 = some (if may0 p0 p1 p2 p3 p4 p5 p6 p7 p8 p9 then 0 else 110):=by
 refine bnd_eq (Check_w p0 p1 p2 p3 p4 p5 p6 p7 p8 p9) ?_
 by_cases h : may0 p0 p1 p2 p3 p4 p5 p6 p7 p8 p9
 ·have e1 : p0 = 1:=h.1.1
  rw [if_pos h,if_pos (show okP p0 p1 p2 p3 p4 p5 p6 p7 p8 p9 from .inl h),e1]; rfl
 ·rw [if_neg h]
  by_cases ho : okP p0 p1 p2 p3 p4 p5 p6 p7 p8 p9
  ·rw [if_pos ho]
   rcases ho with ho | ho
   ·exact absurd ho h
   ·have : p0 = 2:=ho.1
    rw [this]; rfl
  ·rw [if_neg ho]; rfl
end Go.Fo
