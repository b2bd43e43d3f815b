/- What planes play is what the document plays: the plain fact. -/
import Derived.Test.YtdfoifpmghandadGreatSlYb
import Derived.KernelRfl
namespace Go.Fo
set_option maxRecDepth 100000
theorem play2_n (p0 p1 p3 p4 p5 p6 p7 p8 p9 : Int) {P : List (List (List Int))} (hQ : ¬ Cd 1 p4 p3 P) (hL : P.length ≤ 10) (hB : ∀ i,0 ≤ i → i < (P.length : Int) → (blk P i).length ≤ 40) (x : Int) (h u V : List Int) :
  Ok (fun r=>r.1 = [] ∧ r.2.1 = 1) (subband_Decoder_Play_2 5000 P p0 p1 1 p3 p4 p5 p6 p7 p8 p9 x h u V):=by
 refine Ok.bind (fits_iff p0 p1 1 p3 p4 p5 p6 p7 p8 p9 hL hB) ?_
 intro r hr
 have e : r = false:=by
  cases r
  ·rfl
  ·exact absurd (hr.1 rfl) hQ
 rw [e]
 exact Ok.ite (fun _=>Ok.some ⟨rfl,rfl⟩) (fun h=>by cases h)
theorem play3_n (p0 p1 p3 p4 p5 p6 p7 p8 p9 : Int) {P : List (List (List Int))} (hQ : ¬ Cd 2 p4 p3 P) (hL : P.length ≤ 10) (hB : ∀ i,0 ≤ i → i < (P.length : Int) → (blk P i).length ≤ 40) (x : Int) (h u : List Int) (x' : Int) (h' u' V V' : List Int) :
  Ok (fun r=>r.1 = [] ∧ r.2.1 = 1) (subband_Decoder_Play_3 5000 P p0 p1 2 p3 p4 p5 p6 p7 p8 p9 x h u x' h' u' V V'):=by
 refine Ok.bind (fits_iff p0 p1 2 p3 p4 p5 p6 p7 p8 p9 hL hB) ?_
 intro r hr
 have e : r = false:=by
  cases r
  ·rfl
  ·exact absurd (hr.1 rfl) hQ
 rw [e]
 exact Ok.ite (fun _=>Ok.some ⟨rfl,rfl⟩) (fun h=>by cases h)
theorem play2_x (p0 p1 p4 p5 p6 p7 p8 p9 : Int) {m : Nat} (hm : m = 4 ∨ m = 8) (h4 : p4 = 4 ∨ p4 = 8 ∨ p4 = 12 ∨ p4 = 16) {P : List (List (List Int))} (hQ : Cd 1 p4 (m : Int) P) (hL : P.length ≤ 10) (hB : ∀ i,0 ≤ i → i < (P.length : Int) → (blk P i).length ≤ 40) (bs : List (List Int)) :
  Ok (fun r=>r = (wall [outs m bs (blk P 0)] 1 (p4.toNat * m),0,stj m (tuP m) (bs ++ blk P 0))) (subband_Decoder_Play_2 5000 P p0 p1 1 (m : Int) p4 p5 p6 p7 p8 p9 (m : Int) (hP m) (tuP m) (stj m (tuP m) bs)):=by
 refine Ok.bind (fits_iff p0 p1 1 (m : Int) p4 p5 p6 p7 p8 p9 hL hB) ?_
 intro r hr
 rw [show r = true from hr.2 hQ]
 refine Ok.ite (fun h=>by cases h) (fun _=>Ok.gd ⟨by omega,by omega,by omega⟩ ?_)
 have hP1:=hQ.1
 have hb:=hQ.2 0 (by omega) (by omega)
 have hb1 : ((blk P 0).length : Int) = p4:=hb.1
 have hol:=outs_len m (blk P 0) bs
 refine Ok.bind (Q:=fun r=>r = (stj m (tuP m) (bs ++ blk P 0),[outs m bs (blk P 0)])) ?_ ?_
 ·unfold subband_Decoder_Play_2.l0
  refine rounds_ok3 (fun c V X=>(c = 0 ∧ V = stj m (tuP m) bs ∧ X = [[]]) ∨ (c = 1 ∧ V = stj m (tuP m) (bs ++ blk P 0) ∧ X = [outs m bs (blk P 0)])) (fun c _ _=>(1 - c).toNat) _ ?_ 5000 _ _ _ (.inl ⟨rfl,rfl,rfl⟩) (by omega)
  rintro next c V X (⟨rfl,rfl,rfl⟩ | ⟨rfl,rfl,rfl⟩) ih
  ·refine Ok.ite (fun d=>?_) (fun d=>by have:=df d; omega)
   refine Ok.gd ⟨by omega,by omega⟩ (Ok.bind (Q:=fun r=>r = (0,stj m (tuP m) (bs ++ blk P 0),[outs m bs (blk P 0)])) ?_ ?_)
   ·unfold subband_Decoder_Play_2.l1
    refine rounds_ok4 (fun j i V X=>j = 0 ∧ 0 ≤ i ∧ i ≤ p4 ∧ V = stj m (tuP m) (bs ++ (blk P 0).take i.toNat) ∧ X = [outs m bs ((blk P 0).take i.toNat)]) (fun _ i _ _=>(p4 - i).toNat) _ ?_ 5000 _ _ _ _ ⟨rfl,by omega,by omega,by simp,rfl⟩ (by omega)
    rintro next2 j i V X ⟨rfl,f1,f2,rfl,rfl⟩ ih2
    refine Ok.ite (fun d2=>?_) (fun d2=>Ok.some ?_)
    ·have d2 : i < ((blk P 0).length : Int):=dt d2
     have hrow : ((row (blk P 0) i).length : Int) = m:=hb.2 i f1 (by omega)
     refine Ok.gd ⟨f1,d2⟩ (Ok.ite (fun _=>Ok.bind (Ok.is (feed_x hm (bs ++ (blk P 0).take i.toNat) hrow)) ?_) (fun h=>by cases h))
     rintro _ rfl
     have hl1 : (outs m bs ((blk P 0).take i.toNat)).length ≤ 16 * 8:=by rw [outs_len,List.length_take]; exact Nat.mul_le_mul (by omega) (by omega)
     have hl2 : (jnl m (hP m) (stj m (tuP m) (bs ++ (blk P 0).take i.toNat ++ [row (blk P 0) i]))).length = m:=tabOf_len _ _
     refine Ok.gd ⟨by simp,by simp,?_,by simp,by simp⟩ ?_
     ·show (((outs m bs ((blk P 0).take i.toNat)).length : Int) + ((jnl m (hP m) (stj m (tuP m) (bs ++ (blk P 0).take i.toNat ++ [row (blk P 0) i]))).length : Int)) * 2 ≤ _
      omega
     ·have e:=kw1 (x:=i) (by omega) (by omega)
      refine ih2 _ _ _ _ ⟨rfl,by omega,by omega,?_,?_⟩ (by omega)
      ·rw [e,take_row (blk P 0) f1 d2,← List.append_assoc]; rfl
      ·rw [e,take_row (blk P 0) f1 d2,outs_snoc]; rfl
    ·have d2 : ¬ i < ((blk P 0).length : Int):=df d2
     rw [List.take_of_length_le (by omega)]
   ·rintro _ rfl
    exact ih _ _ _ (.inr ⟨rfl,rfl,rfl⟩) (by decide)
  ·refine Ok.ite (fun d=>by have:=dt d; omega) (fun _=>Ok.some rfl)
 ·rintro _ rfl
  refine Ok.bind (weave_x (C:=1) (n:=p4.toNat * m) ⟨rfl,fun c c0 c1=>?_⟩ (.inl rfl) ?_) ?_
  ·have : c = 0:=by omega
   subst this
   show ((outs m bs (blk P 0)).length : Int) = _
   rw [hol]; push_cast; rw [hb1,Int.toNat_of_nonneg (by omega)]
  ·have : p4.toNat * m ≤ 16 * 8:=Nat.mul_le_mul (by omega) (by omega)
   omega
  ·rintro _ rfl
   exact Ok.some rfl
theorem play3_x (p0 p1 p4 p5 p6 p7 p8 p9 : Int) {m : Nat} (hm : m = 4 ∨ m = 8) (h4 : p4 = 4 ∨ p4 = 8 ∨ p4 = 12 ∨ p4 = 16) {P : List (List (List Int))} (hQ : Cd 2 p4 (m : Int) P) (hL : P.length ≤ 10) (hB : ∀ i,0 ≤ i → i < (P.length : Int) → (blk P i).length ≤ 40) (bs cs : List (List Int)) :
  Ok (fun r=>r = (wall [outs m bs (blk P 0),outs m cs (blk P 1)] 2 (p4.toNat * m),0,stj m (tuP m) (bs ++ blk P 0),stj m (tuP m) (cs ++ blk P 1))) (subband_Decoder_Play_3 5000 P p0 p1 2 (m : Int) p4 p5 p6 p7 p8 p9 (m : Int) (hP m) (tuP m) (m : Int) (hP m) (tuP m) (stj m (tuP m) bs) (stj m (tuP m) cs)):=by
 refine Ok.bind (fits_iff p0 p1 2 (m : Int) p4 p5 p6 p7 p8 p9 hL hB) ?_
 intro r hr
 rw [show r = true from hr.2 hQ]
 refine Ok.ite (fun h=>by cases h) (fun _=>Ok.gd ⟨by omega,by omega,by omega⟩ ?_)
 have hP1:=hQ.1
 have hb:=hQ.2 0 (by omega) (by omega)
 have hb1 : ((blk P 0).length : Int) = p4:=hb.1
 have hc:=hQ.2 1 (by omega) (by omega)
 have hc1 : ((blk P 1).length : Int) = p4:=hc.1
 refine Ok.bind (Q:=fun r=>r = (stj m (tuP m) (bs ++ blk P 0),stj m (tuP m) (cs ++ blk P 1),[outs m bs (blk P 0),outs m cs (blk P 1)])) ?_ ?_
 ·unfold subband_Decoder_Play_3.l0
  refine rounds_ok4 (fun c V W X=>(c = 0 ∧ V = stj m (tuP m) bs ∧ W = stj m (tuP m) cs ∧ X = [[],[]]) ∨ (c = 1 ∧ V = stj m (tuP m) (bs ++ blk P 0) ∧ W = stj m (tuP m) cs ∧ X = [outs m bs (blk P 0),[]]) ∨ (c = 2 ∧ V = stj m (tuP m) (bs ++ blk P 0) ∧ W = stj m (tuP m) (cs ++ blk P 1) ∧ X = [outs m bs (blk P 0),outs m cs (blk P 1)])) (fun c _ _ _=>(2 - c).toNat) _ ?_ 5000 _ _ _ _ (.inl ⟨rfl,rfl,rfl,rfl⟩) (by omega)
  rintro next c V W X (⟨rfl,rfl,rfl,rfl⟩ | ⟨rfl,rfl,rfl,rfl⟩ | ⟨rfl,rfl,rfl,rfl⟩) ih
  ·refine Ok.ite (fun d=>?_) (fun d=>by have:=df d; omega)
   refine Ok.gd ⟨by omega,by omega⟩ (Ok.bind (Q:=fun r=>r = (0,stj m (tuP m) (bs ++ blk P 0),stj m (tuP m) cs,[outs m bs (blk P 0),[]])) ?_ ?_)
   ·unfold subband_Decoder_Play_3.l1
    refine rounds_ok5 (fun j i V W X=>j = 0 ∧ 0 ≤ i ∧ i ≤ p4 ∧ V = stj m (tuP m) (bs ++ (blk P 0).take i.toNat) ∧ W = stj m (tuP m) cs ∧ X = [outs m bs ((blk P 0).take i.toNat),[]]) (fun _ i _ _ _=>(p4 - i).toNat) _ ?_ 5000 _ _ _ _ _ ⟨rfl,by omega,by omega,by simp,rfl,rfl⟩ (by omega)
    rintro next2 j i V W X ⟨rfl,f1,f2,rfl,rfl,rfl⟩ ih2
    refine Ok.ite (fun d2=>?_) (fun d2=>Ok.some ?_)
    ·have d2 : i < ((blk P 0).length : Int):=dt d2
     have hrow : ((row (blk P 0) i).length : Int) = m:=hb.2 i f1 (by omega)
     have hl1 : (outs m bs ((blk P 0).take i.toNat)).length ≤ 16 * 8:=by rw [outs_len,List.length_take]; exact Nat.mul_le_mul (by omega) (by omega)
     have hl2 : (jnl m (hP m) (stj m (tuP m) (bs ++ (blk P 0).take i.toNat ++ [row (blk P 0) i]))).length = m:=tabOf_len _ _
     refine Ok.bind (Q:=fun r=>r = (0,stj m (tuP m) (bs ++ (blk P 0).take i.toNat ++ [row (blk P 0) i]),stj m (tuP m) cs,[outs m bs ((blk P 0).take i.toNat) ++ jnl m (hP m) (stj m (tuP m) (bs ++ (blk P 0).take i.toNat ++ [row (blk P 0) i])),[]])) ?_ ?_
     ·refine Ok.gd ⟨f1,d2⟩ (Ok.ite (fun _=>Ok.bind (Ok.is (feed_x hm (bs ++ (blk P 0).take i.toNat) hrow)) ?_) (fun h=>by cases h))
      rintro _ rfl
      refine Ok.gd ⟨by simp,by simp,?_,by simp,by simp⟩ (Ok.some rfl)
      show (((outs m bs ((blk P 0).take i.toNat)).length : Int) + ((jnl m (hP m) (stj m (tuP m) (bs ++ (blk P 0).take i.toNat ++ [row (blk P 0) i]))).length : Int)) * 2 ≤ _
      omega
     ·rintro _ rfl
      have e:=kw1 (x:=i) (by omega) (by omega)
      refine ih2 _ _ _ _ _ ⟨rfl,by omega,by omega,?_,rfl,?_⟩ (by omega)
      ·rw [e,take_row (blk P 0) f1 d2,← List.append_assoc]
      ·rw [e,take_row (blk P 0) f1 d2,outs_snoc]
    ·have d2 : ¬ i < ((blk P 0).length : Int):=df d2
     rw [List.take_of_length_le (by omega)]
   ·rintro _ rfl
    exact ih _ _ _ _ (.inr (.inl ⟨rfl,rfl,rfl,rfl⟩)) (by decide)
  ·refine Ok.ite (fun d=>?_) (fun d=>by have:=df d; omega)
   refine Ok.gd ⟨by omega,by omega⟩ (Ok.bind (Q:=fun r=>r = (1,stj m (tuP m) (bs ++ blk P 0),stj m (tuP m) (cs ++ blk P 1),[outs m bs (blk P 0),outs m cs (blk P 1)])) ?_ ?_)
   ·unfold subband_Decoder_Play_3.l1
    refine rounds_ok5 (fun j i V W X=>j = 1 ∧ 0 ≤ i ∧ i ≤ p4 ∧ V = stj m (tuP m) (bs ++ blk P 0) ∧ W = stj m (tuP m) (cs ++ (blk P 1).take i.toNat) ∧ X = [outs m bs (blk P 0),outs m cs ((blk P 1).take i.toNat)]) (fun _ i _ _ _=>(p4 - i).toNat) _ ?_ 5000 _ _ _ _ _ ⟨rfl,by omega,by omega,rfl,by simp,rfl⟩ (by omega)
    rintro next2 j i V W X ⟨rfl,f1,f2,rfl,rfl,rfl⟩ ih2
    refine Ok.ite (fun d2=>?_) (fun d2=>Ok.some ?_)
    ·have d2 : i < ((blk P 1).length : Int):=dt d2
     have hrow : ((row (blk P 1) i).length : Int) = m:=hc.2 i f1 (by omega)
     have hl1 : (outs m cs ((blk P 1).take i.toNat)).length ≤ 16 * 8:=by rw [outs_len,List.length_take]; exact Nat.mul_le_mul (by omega) (by omega)
     have hl2 : (jnl m (hP m) (stj m (tuP m) (cs ++ (blk P 1).take i.toNat ++ [row (blk P 1) i]))).length = m:=tabOf_len _ _
     refine Ok.bind (Q:=fun r=>r = (1,stj m (tuP m) (bs ++ blk P 0),stj m (tuP m) (cs ++ (blk P 1).take i.toNat ++ [row (blk P 1) i]),[outs m bs (blk P 0),outs m cs ((blk P 1).take i.toNat) ++ jnl m (hP m) (stj m (tuP m) (cs ++ (blk P 1).take i.toNat ++ [row (blk P 1) i]))])) ?_ ?_
     ·refine Ok.gd ⟨f1,d2⟩ (Ok.ite (fun h=>by cases h) (fun _=>Ok.ite (fun _=>Ok.bind (Ok.is (feed_x hm (cs ++ (blk P 1).take i.toNat) hrow)) ?_) (fun h=>by cases h)))
      rintro _ rfl
      refine Ok.gd ⟨by simp,by simp,?_,by simp,by simp⟩ (Ok.some rfl)
      show (((outs m cs ((blk P 1).take i.toNat)).length : Int) + ((jnl m (hP m) (stj m (tuP m) (cs ++ (blk P 1).take i.toNat ++ [row (blk P 1) i]))).length : Int)) * 2 ≤ _
      omega
     ·rintro _ rfl
      have e:=kw1 (x:=i) (by omega) (by omega)
      refine ih2 _ _ _ _ _ ⟨rfl,by omega,by omega,rfl,?_,?_⟩ (by omega)
      ·rw [e,take_row (blk P 1) f1 d2,← List.append_assoc]
      ·rw [e,take_row (blk P 1) f1 d2,outs_snoc]
    ·have d2 : ¬ i < ((blk P 1).length : Int):=df d2
     rw [List.take_of_length_le (by omega)]
   ·rintro _ rfl
    exact ih _ _ _ _ (.inr (.inr ⟨rfl,rfl,rfl,rfl⟩)) (by decide)
  ·refine Ok.ite (fun d=>by have:=dt d; omega) (fun _=>Ok.some rfl)
 ·rintro _ rfl
  refine Ok.bind (weave_x (C:=2) (n:=p4.toNat * m) ⟨rfl,fun c c0 c1=>?_⟩ (.inr rfl) ?_) ?_
  ·have : c = 0 ∨ c = 1:=by omega
   rcases this with rfl | rfl
   ·show ((outs m bs (blk P 0)).length : Int) = _
    rw [outs_len]; push_cast; rw [hb1,Int.toNat_of_nonneg (by omega)]
   ·show ((outs m cs (blk P 1)).length : Int) = _
    rw [outs_len]; push_cast; rw [hc1,Int.toNat_of_nonneg (by omega)]
  ·have : p4.toNat * m ≤ 16 * 8:=Nat.mul_le_mul (by omega) (by omega)
   omega
  ·rintro _ rfl
   exact Ok.some rfl
theorem same_x {l : List Int} (h : l.length ≤ 4000) : Ok (fun r=>r = true) (psalteryref04_Same 5000 l l):=by
 refine Ok.ite (fun c=>by simp at c) (fun _=>Ok.bind (Q:=fun z=>z = .inl ()) ?_ (fun z hz=>by rw [show z = .inl () from hz]; exact Ok.some rfl))
 unfold psalteryref04_Same.l0
 refine rounds_ok1 (fun i=>0 ≤ i ∧ i ≤ (l.length : Int)) (fun i=>((l.length : Int) - i).toNat) _ ?_ 5000 _ ⟨by omega,by omega⟩ (by omega)
 rintro next i ⟨g1,g2⟩ ih
 refine Ok.ite (fun d=>?_) (fun _=>Ok.some rfl)
 have d:=dt d
 refine Ok.gd ⟨g1,d⟩ (Ok.gd ⟨g1,d⟩ (Ok.ite (fun c=>by simp at c) (fun _=>?_)))
 have e:=kw1 (x:=i) (by omega) (by omega)
 exact ih _ ⟨by omega,by omega⟩ (by omega)
theorem alive_t : psalterylaw14_alive 5000 = some true:=by kernel_rfl
theorem bank_t : ∃ u,bank_New 5000 = some u:=⟨_,rfl⟩
theorem stj_nil (m : Nat) (u : List Int) : List.replicate (20 * m) 0 = stj m u []:=by unfold stj rjs; simp
theorem cnt_b (t : Int) : kwrap .i64 (1 + Int.tmod (kwrap .i64 t) 3) ≤ 3:=by
 have h1:=Int.lt_tmod_of_pos (kwrap .i64 t) (b:=3) (by omega)
 have h2:=Int.tmod_lt_of_pos (kwrap .i64 t) (b:=3) (by omega)
 rw [kw64 (by omega) (by omega)]; omega
theorem law1_ok (p0 p1 p4 p5 p6 p7 p8 p9 : Int) {m : Nat} (hm : m = 4 ∨ m = 8) (h4 : p4 = 4 ∨ p4 = 8 ∨ p4 = 12 ∨ p4 = 16) {P : List (List (List Int))} (hL : P.length ≤ 10) (hB : ∀ i,0 ≤ i → i < (P.length : Int) → (blk P i).length ≤ 40) (t : Int) :
  Ok (fun z=>z = .inl () ∨ z = .inr true) (psalterylaw14_SubPlays.l1 5000 P t p0 p1 1 (m : Int) p4 p5 p6 p7 p8 p9 (m : Int) (hP m) (tuP m) 5000 0 [] (stj m (tuP m) [])):=by
 have hc3:=cnt_b t
 unfold psalterylaw14_SubPlays.l1
 refine rounds_ok3 (fun i A V=>0 ≤ i ∧ i ≤ 3 ∧ A = List.replicate i.toNat P ∧ V = stj m (tuP m) (hist (blk P 0) i.toNat)) (fun i _ _=>(4 - i).toNat) _ ?_ 5000 _ _ _ ⟨by omega,by omega,rfl,rfl⟩ (by omega)
 rintro next i A V ⟨g1,g2,rfl,rfl⟩ ih
 refine Ok.ite (fun d=>?_) (fun _=>Ok.some (.inl rfl))
 have d : i < kwrap .i64 (1 + Int.tmod (kwrap .i64 t) 3):=dt d
 by_cases hQ : Cd 1 p4 (m : Int) P
 ·refine Ok.bind (play2_x p0 p1 p4 p5 p6 p7 p8 p9 hm h4 hQ hL hB (hist (blk P 0) i.toNat)) ?_
  rintro _ rfl
  refine Ok.bind (rfits_iff p0 p1 1 (m : Int) p4 p5 p6 p7 p8 p9 hL hB) ?_
  intro r hr
  rw [show r = true from hr.2 hQ]
  refine Ok.ite (fun h=>by cases h) (fun _=>?_)
  refine Ok.gd (by rw [List.length_replicate]; show (((i.toNat : Nat) : Int) + 1) * 24 ≤ _; omega) ?_
  refine Ok.bind (Q:=fun r=>r = false) (Ok.ite (fun h=>by cases h) (fun _=>?_)) ?_
  ·have hrep : List.replicate i.toNat P ++ [P] = List.replicate (i.toNat + 1) P:=by rw [List.replicate_succ']
   rw [hrep]
   refine Ok.bind (rplay_x p0 p1 1 (m : Int) p4 p5 p6 p7 p8 p9 (C:=1) (m:=m) (.inl rfl) rfl hm rfl h4 hQ i.toNat (by omega)) ?_
   rintro _ rfl
   have hln : (wall [outs m (hist (blk P 0) i.toNat) (blk P 0)] 1 (p4.toNat * m)).length ≤ 4000:=by
    rw [wall_len]
    have : p4.toNat * m ≤ 16 * 8:=Nat.mul_le_mul (by omega) (by omega)
    omega
   refine Ok.bind (same_x hln) ?_
   rintro _ rfl
   exact Ok.some rfl
  ·rintro _ rfl
   refine Ok.ite (fun h=>by cases h) (fun _=>?_)
   have e:=kw1 (x:=i) (by omega) (by omega)
   refine ih _ _ _ ⟨by omega,by omega,?_,?_⟩ (by omega)
   ·rw [e,show (i + 1).toNat = i.toNat + 1 by omega,List.replicate_succ']
   ·rw [e,show (i + 1).toNat = i.toNat + 1 by omega]; rfl
 ·refine Ok.bind (play2_n p0 p1 (m : Int) p4 p5 p6 p7 p8 p9 hQ hL hB _ _ _ _) ?_
  rintro ⟨o,p,D⟩ ⟨e1,e2⟩
  have e1 : o = []:=e1
  have e2 : p = 1:=e2
  subst e1; subst e2
  refine Ok.bind (rfits_iff p0 p1 1 (m : Int) p4 p5 p6 p7 p8 p9 hL hB) ?_
  intro r hr
  have e : r = false:=by
   cases r
   ·rfl
   ·exact absurd (hr.1 rfl) hQ
  rw [e]
  exact Ok.ite (fun _=>Ok.some (.inr rfl)) (fun h=>by cases h)
theorem law2_ok (p0 p1 p4 p5 p6 p7 p8 p9 : Int) {m : Nat} (hm : m = 4 ∨ m = 8) (h4 : p4 = 4 ∨ p4 = 8 ∨ p4 = 12 ∨ p4 = 16) {P : List (List (List Int))} (hL : P.length ≤ 10) (hB : ∀ i,0 ≤ i → i < (P.length : Int) → (blk P i).length ≤ 40) (t : Int) :
  Ok (fun z=>z = .inl () ∨ z = .inr true) (psalterylaw14_SubPlays.l2 5000 P t p0 p1 2 (m : Int) p4 p5 p6 p7 p8 p9 (m : Int) (hP m) (tuP m) (m : Int) (hP m) (tuP m) 5000 0 [] (stj m (tuP m) []) (stj m (tuP m) [])):=by
 have hc3:=cnt_b t
 unfold psalterylaw14_SubPlays.l2
 refine rounds_ok4 (fun i A V W=>0 ≤ i ∧ i ≤ 3 ∧ A = List.replicate i.toNat P ∧ V = stj m (tuP m) (hist (blk P 0) i.toNat) ∧ W = stj m (tuP m) (hist (blk P 1) i.toNat)) (fun i _ _ _=>(4 - i).toNat) _ ?_ 5000 _ _ _ _ ⟨by omega,by omega,rfl,rfl,rfl⟩ (by omega)
 rintro next i A V W ⟨g1,g2,rfl,rfl,rfl⟩ ih
 refine Ok.ite (fun d=>?_) (fun _=>Ok.some (.inl rfl))
 have d : i < kwrap .i64 (1 + Int.tmod (kwrap .i64 t) 3):=dt d
 by_cases hQ : Cd 2 p4 (m : Int) P
 ·refine Ok.bind (play3_x p0 p1 p4 p5 p6 p7 p8 p9 hm h4 hQ hL hB (hist (blk P 0) i.toNat) (hist (blk P 1) i.toNat)) ?_
  rintro _ rfl
  refine Ok.bind (rfits_iff p0 p1 2 (m : Int) p4 p5 p6 p7 p8 p9 hL hB) ?_
  intro r hr
  rw [show r = true from hr.2 hQ]
  refine Ok.ite (fun h=>by cases h) (fun _=>?_)
  refine Ok.gd (by rw [List.length_replicate]; show (((i.toNat : Nat) : Int) + 1) * 24 ≤ _; omega) ?_
  refine Ok.bind (Q:=fun r=>r = false) (Ok.ite (fun h=>by cases h) (fun _=>?_)) ?_
  ·have hrep : List.replicate i.toNat P ++ [P] = List.replicate (i.toNat + 1) P:=by rw [List.replicate_succ']
   rw [hrep]
   refine Ok.bind (rplay_x p0 p1 2 (m : Int) p4 p5 p6 p7 p8 p9 (C:=2) (m:=m) (.inr rfl) rfl hm rfl h4 hQ i.toNat (by omega)) ?_
   rintro _ rfl
   have hln : (wall [outs m (hist (blk P 0) i.toNat) (blk P 0),outs m (hist (blk P 1) i.toNat) (blk P 1)] 2 (p4.toNat * m)).length ≤ 4000:=by
    rw [wall_len]
    have : p4.toNat * m ≤ 16 * 8:=Nat.mul_le_mul (by omega) (by omega)
    omega
   refine Ok.bind (same_x hln) ?_
   rintro _ rfl
   exact Ok.some rfl
  ·rintro _ rfl
   refine Ok.ite (fun h=>by cases h) (fun _=>?_)
   have e:=kw1 (x:=i) (by omega) (by omega)
   refine ih _ _ _ _ ⟨by omega,by omega,?_,?_,?_⟩ (by omega)
   ·rw [e,show (i + 1).toNat = i.toNat + 1 by omega,List.replicate_succ']
   ·rw [e,show (i + 1).toNat = i.toNat + 1 by omega]; rfl
   ·rw [e,show (i + 1).toNat = i.toNat + 1 by omega]; rfl
 ·refine Ok.bind (play3_n p0 p1 (m : Int) p4 p5 p6 p7 p8 p9 hQ hL hB _ _ _ _ _ _ _ _) ?_
  rintro ⟨o,p,D⟩ ⟨e1,e2⟩
  have e1 : o = []:=e1
  have e2 : p = 1:=e2
  subst e1; subst e2
  refine Ok.bind (rfits_iff p0 p1 2 (m : Int) p4 p5 p6 p7 p8 p9 hL hB) ?_
  intro r hr
  have e : r = false:=by
   cases r
   ·rfl
   ·exact absurd (hr.1 rfl) hQ
  rw [e]
  exact Ok.ite (fun _=>Ok.some (.inr rfl)) (fun h=>by cases h)
theorem plays_w (p0 p1 p2 p3 p4 p5 p6 p7 p8 p9 : Int) (P : List (List (List Int))) (t : Int) : psalterylaw14_SubPlays 5000 p0 p1 p2 p3 p4 p5 p6 p7 p8 p9 P t = some true:=by
 have key : Ok (fun r=>r = true) (psalterylaw14_SubPlays 5000 p0 p1 p2 p3 p4 p5 p6 p7 p8 p9 P t):=by
  refine Ok.bind (Ok.is alive_t) ?_
  rintro _ rfl
  refine Ok.ite (fun h=>by cases h) (fun _=>Ok.bind (far_ok P) ?_)
  intro r hr
  refine Ok.ite (fun _=>Ok.some rfl) (fun hf=>?_)
  obtain ⟨hL,hB⟩:=hr hf
  obtain ⟨u,hu⟩:=bank_t
  refine Ok.bind (Ok.is hu) ?_
  intro _ _
  by_cases hm : may0 p0 p1 p2 p3 p4 p5 p6 p7 p8 p9
  ·have h2 : p2 = 1 ∨ p2 = 2:=hm.1.2.2.2.1
   have h3' : p3 = 4 ∨ p3 = 8:=hm.1.2.2.2.2.1
   have h4 : p4 = 4 ∨ p4 = 8 ∨ p4 = 12 ∨ p4 = 16:=hm.1.2.2.2.2.2.1
   obtain ⟨m,hm4,h3⟩ : ∃ m : Nat,(m = 4 ∨ m = 8) ∧ p3 = (m : Int):=by
    rcases h3' with h | h
    ·exact ⟨4,.inl rfl,h⟩
    ·exact ⟨8,.inr rfl,h⟩
   subst h3
   obtain ⟨t1,a,b,e,t2,a2,b2,e'⟩:=nj_ok hm4
   have hmay : subband_may 5000 p0 p1 p2 (m : Int) p4 p5 p6 p7 p8 p9 = some 0:=(smay_w p0 p1 p2 (m : Int) p4 p5 p6 p7 p8 p9).trans (by rw [if_pos hm])
   rcases h2 with h2 | h2
   ·subst h2
    have hd : subband_NewDecoder 5000 p0 p1 1 (m : Int) p4 p5 p6 p7 p8 p9 (List.replicate 388 none) 0 0 = some (.inr (.inl (t1,a,b,(m : Int),hP m,tuP m,List.replicate (20 * m) 0))) :=
     bnd_eq hmay (bif_eq_f rfl (bif_eq_t rfl (bnd_eq e rfl)))
    refine Ok.bind (Ok.is hd) ?_
    rintro _ rfl
    refine Ok.bind (sub_ok p0 p1 1 (m : Int) p4 p5 p6 p7 p8 p9) ?_
    intro r hr
    rw [show r = true from hr.2 hm]
    refine Ok.ite (fun h=>by cases h) (fun _=>?_)
    have hl:=law1_ok p0 p1 p4 p5 p6 p7 p8 p9 hm4 h4 hL hB t
    rw [← stj_nil] at hl
    refine Ok.bind hl ?_
    rintro z (rfl | rfl)
    ·exact Ok.some rfl
    ·exact Ok.some rfl
   ·subst h2
    have hd : subband_NewDecoder 5000 p0 p1 2 (m : Int) p4 p5 p6 p7 p8 p9 (List.replicate 388 none) 0 0 = some (.inr (.inr (t2,a2,b2,(m : Int),hP m,tuP m,(m : Int),hP m,tuP m,List.replicate (20 * m) 0,List.replicate (20 * m) 0))) :=
     bnd_eq hmay (bif_eq_f rfl (bif_eq_f rfl (bif_eq_t rfl (bnd_eq e (bnd_eq e' rfl)))))
    refine Ok.bind (Ok.is hd) ?_
    rintro _ rfl
    refine Ok.bind (sub_ok p0 p1 2 (m : Int) p4 p5 p6 p7 p8 p9) ?_
    intro r hr
    rw [show r = true from hr.2 hm]
    refine Ok.ite (fun h=>by cases h) (fun _=>?_)
    have hl:=law2_ok p0 p1 p4 p5 p6 p7 p8 p9 hm4 h4 hL hB t
    rw [← stj_nil] at hl
    refine Ok.bind hl ?_
    rintro z (rfl | rfl)
    ·exact Ok.some rfl
    ·exact Ok.some rfl
  ·have hd : subband_NewDecoder 5000 p0 p1 p2 p3 p4 p5 p6 p7 p8 p9 (List.replicate 388 none) 0 0 = some (.inl 110) :=
    bnd_eq ((smay_w p0 p1 p2 p3 p4 p5 p6 p7 p8 p9).trans (by rw [if_neg hm])) (bif_eq_t rfl rfl)
   refine Ok.bind (Ok.is hd) ?_
   rintro _ rfl
   refine Ok.bind (sub_ok p0 p1 p2 p3 p4 p5 p6 p7 p8 p9) ?_
   intro r hr
   have e : r = false:=by
    cases r
    ·rfl
    ·exact absurd (hr.1 rfl) hm
   rw [e]
   exact Ok.ite (fun _=>Ok.some rfl) (fun h=>by cases h)
 obtain ⟨r,h1,h2⟩:=key
 rw [h1,show r = true from h2]
end Go.Fo
