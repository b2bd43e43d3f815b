/- What planes play,exactly. -/
import Derived.Test.YtdfoifpmghandadGreatSlYa
import Derived.Test.YtdfoifpmghandadGreatSlJo
namespace Go.Fo
set_option maxRecDepth 6000
def outs (m : Nat) (bs : List (List Int)) : List (List Int) → List Int
  | []=>[]
  | c :: cs=>jnl m (hP m) (stj m (tuP m) (bs ++ [c])) ++ outs m (bs ++ [c]) cs
theorem outs_snoc (m : Nat) : ∀ (cs bs : List (List Int)) (c : List Int),outs m bs (cs ++ [c]) = outs m bs cs ++ jnl m (hP m) (stj m (tuP m) (bs ++ cs ++ [c]))
 | [],bs,c=>by simp [outs]
 | d :: cs,bs,c=>by
  show jnl m (hP m) (stj m (tuP m) (bs ++ [d])) ++ outs m (bs ++ [d]) (cs ++ [c]) = jnl m (hP m) (stj m (tuP m) (bs ++ [d])) ++ outs m (bs ++ [d]) cs ++ _
  rw [outs_snoc m cs (bs ++ [d]) c,← List.append_assoc,show bs ++ (d :: cs) ++ [c] = bs ++ [d] ++ cs ++ [c] by simp]
theorem outs_len (m : Nat) : ∀ (cs bs : List (List Int)),(outs m bs cs).length = cs.length * m
 | [],_=>by simp [outs]
 | d :: cs,bs=>by
  show (jnl m (hP m) (stj m (tuP m) (bs ++ [d])) ++ outs m (bs ++ [d]) cs).length = _
  rw [List.length_append,outs_len m cs,show (jnl m (hP m) (stj m (tuP m) (bs ++ [d]))).length = m from tabOf_len _ _,List.length_cons,Nat.add_mul,Nat.one_mul]; omega
theorem row_get (X : List (List Int)) {i : Int} (h0 : 0 ≤ i) (h1 : i < (X.length : Int)) : row X i = X[i.toNat]'(by omega):=by
 show X.getD i.toNat [] = _
 rw [List.getD_eq_getElem?_getD,List.getElem?_eq_getElem (by omega)]; rfl
theorem take_row (X : List (List Int)) {i : Int} (h0 : 0 ≤ i) (h1 : i < (X.length : Int)) : X.take (i + 1).toNat = X.take i.toNat ++ [row X i]:=by
 rw [show (i + 1).toNat = i.toNat + 1 by omega,List.take_add_one,List.getElem?_eq_getElem (by omega),row_get X h0 h1]; rfl
theorem feed_x {m : Nat} (hm : m = 4 ∨ m = 8) (bs : List (List Int)) {s : List Int} (hs : (s.length : Int) = m) :
  poly_Joiner_Feed 5000 s (m : Int) (hP m) (tuP m) (stj m (tuP m) bs) = some (jnl m (hP m) (stj m (tuP m) (bs ++ [s])),0,stj m (tuP m) (bs ++ [s])):=by
 obtain ⟨hh,ht,_,_⟩:=new_ok m hm
 have:=jfeed_w 5000 m (by decide) hm s (hP m) (tuP m) (stj m (tuP m) bs) (by omega) hh ht (stj_len _ _ _)
 rw [jx_stj] at this; exact this
def wrow (L : List (List Int)) (i : Nat) : Nat → List Int
  | 0=>[]
  | c + 1=>wrow L i c ++ [Kd.nth (.int .i16) (Kd.nth (.slice (.int .i16)) L c) i]
def wall (L : List (List Int)) (C : Nat) : Nat → List Int
  | 0=>[]
  | i + 1=>wall L C i ++ wrow L i C
theorem wrow_len (L : List (List Int)) (i : Nat) : ∀ c,(wrow L i c).length = c
 | 0=>rfl
 | c + 1=>by show (wrow L i c ++ [_]).length = _; rw [List.length_append,wrow_len L i c]; rfl
theorem wall_len (L : List (List Int)) (C : Nat) : ∀ i,(wall L C i).length = i * C
 | 0=>by simp [wall]
 | i + 1=>by show (wall L C i ++ wrow L i C).length = _; rw [List.length_append,wall_len L C i,wrow_len,Nat.add_mul,Nat.one_mul]
theorem weave_x {C n : Nat} {L : List (List Int)} (hL : Sh C n L) (hC : C = 1 ∨ C = 2) (hn : n ≤ 1000) : Ok (fun r=>r = (wall L C n,0)) (pcm_Weave 5000 L):=by
 obtain ⟨h1,h2⟩:=hL
 have e0 : ((Kd.nth (.slice (.int .i16)) L 0).length : Int) = n:=h2 0 (by omega) (by omega)
 have k1 : kwrap .i64 ((L.length : Int) - 1) = (L.length : Int) - 1:=kw64 (by omega) (by omega)
 have e1 : ((Kd.nth (.slice (.int .i16)) L (Int.toNat ((L.length : Int) - 1))).length : Int) = n:=h2 ((L.length : Int) - 1) (by omega) (by omega)
 unfold pcm_Weave
 dsimp only
 rw [k1]
 refine Ok.gd (fun _=>by omega) (Ok.gd ⟨fun _=>by omega,fun _=>by omega⟩ (Ok.ite (fun c=>?_) (fun _=>Ok.gd (by omega) ?_)))
 ·rw [e0,e1,h1] at c
  rcases hC with rfl | rfl <;> simp at c
 ·rw [e0]
  refine Ok.bind (Q:=fun r=>r = wall L C n) ?_ (fun r hr=>Ok.some (by rw [show r = wall L C n from hr]))
  unfold pcm_Weave.l0
  refine rounds_ok2 (fun i X=>0 ≤ i ∧ i ≤ (n : Int) ∧ X = wall L C i.toNat) (fun i _=>((n : Int) - i).toNat) _ ?_ 5000 _ _ ⟨by omega,by omega,rfl⟩ (by omega)
  rintro next i X ⟨g1,g2,g3⟩ ih
  refine Ok.ite (fun d=>?_) (fun d=>Ok.some (by have:=df d; rw [g3,show i.toNat = n by omega]))
  have d:=dt d
  have hXl : X.length = i.toNat * C:=by rw [g3,wall_len]
  have hb : i.toNat * C ≤ 2000:=by rcases hC with rfl | rfl <;> omega
  refine Ok.bind (Q:=fun Y=>Y = wall L C i.toNat ++ wrow L i.toNat C) ?_ ?_
  ·unfold pcm_Weave.l1
   refine rounds_ok2 (fun c Y=>0 ≤ c ∧ c ≤ (C : Int) ∧ Y = wall L C i.toNat ++ wrow L i.toNat c.toNat) (fun c _=>((C : Int) - c).toNat) _ ?_ 5000 _ _ ⟨by omega,by omega,by rw [g3]; exact (List.append_nil _).symm⟩ (by omega)
   rintro next2 c Y ⟨f1,f2,f3⟩ ih2
   refine Ok.ite (fun d2=>?_) (fun d2=>Ok.some (by have:=df d2; rw [f3,show c.toNat = C by omega]))
   have d2:=dt d2
   have hr : ((Kd.nth (.slice (.int .i16)) L (Int.toNat c)).length : Int) = n:=h2 c f1 (by omega)
   have hYl : Y.length = i.toNat * C + c.toNat:=by rw [f3,List.length_append,wall_len,wrow_len]
   refine Ok.gd ⟨f1,d2⟩ (Ok.gd ⟨g1,by omega,?_⟩ ?_)
   ·show ((Y.length : Int) + 1) * 2 ≤ _
    omega
   ·have e:=kw1 (x:=c) (by omega) (by omega)
    refine ih2 _ _ ⟨by omega,by omega,?_⟩ (by omega)
    rw [e,show (c + 1).toNat = c.toNat + 1 by omega,f3,List.append_assoc]; rfl
  ·intro Y hY
   have e:=kw1 (x:=i) (by omega) (by omega)
   refine ih _ _ ⟨by omega,by omega,?_⟩ (by omega)
   rw [e,show (i + 1).toNat = i.toNat + 1 by omega]; exact hY
theorem rweave_x (p0 p1 p2 p3 p4 p5 p6 p7 p8 p9 : Int) {C n : Nat} {L : List (List Int)} (hL : Sh C n L) (hC : C = 1 ∨ C = 2) (h2 : p2 = C) (hn : n ≤ 1000) : Ok (fun r=>r = wall L C n) (psalteryref14_Play.l0 5000 p0 p1 p2 p3 p4 p5 p6 p7 p8 p9 L 5000 0 []):=by
 obtain ⟨h1,hr0⟩:=hL
 have e0 : ((Kd.nth (.slice (.int .i16)) L 0).length : Int) = n:=hr0 0 (by omega) (by omega)
 unfold psalteryref14_Play.l0
 refine rounds_ok2 (fun i X=>0 ≤ i ∧ i ≤ (n : Int) ∧ X = wall L C i.toNat) (fun i _=>((n : Int) - i).toNat) _ ?_ 5000 _ _ ⟨by omega,by omega,rfl⟩ (by omega)
 rintro next i X ⟨g1,g2,g3⟩ ih
 refine Ok.gd ⟨by omega,by omega⟩ (Ok.ite (fun d=>?_) (fun d=>Ok.some (by have:=df d; rw [g3,show i.toNat = n by omega])))
 have d:=dt d
 have hb : i.toNat * C ≤ 2000:=by rcases hC with rfl | rfl <;> omega
 refine Ok.bind (Q:=fun Y=>Y = wall L C i.toNat ++ wrow L i.toNat C) ?_ ?_
 ·unfold psalteryref14_Play.l1
  refine rounds_ok2 (fun c Y=>0 ≤ c ∧ c ≤ (C : Int) ∧ Y = wall L C i.toNat ++ wrow L i.toNat c.toNat) (fun c _=>((C : Int) - c).toNat) _ ?_ 5000 _ _ ⟨by omega,by omega,by rw [g3]; exact (List.append_nil _).symm⟩ (by omega)
  rintro next2 c Y ⟨f1,f2,f3⟩ ih2
  refine Ok.ite (fun d2=>?_) (fun d2=>Ok.some (by have:=df d2; rw [f3,show c.toNat = C by omega]))
  have d2:=dt d2
  have hr : ((Kd.nth (.slice (.int .i16)) L (Int.toNat c)).length : Int) = n:=hr0 c f1 (by omega)
  have hYl : Y.length = i.toNat * C + c.toNat:=by rw [f3,List.length_append,wall_len,wrow_len]
  refine Ok.gd ⟨f1,by omega,by omega,g1,by omega,?_⟩ ?_
  ·show ((Y.length : Int) + 1) * 2 ≤ _
   omega
  ·have e:=kw1 (x:=c) (by omega) (by omega)
   refine ih2 _ _ ⟨by omega,by omega,?_⟩ (by omega)
   rw [e,show (c + 1).toNat = c.toNat + 1 by omega,f3,List.append_assoc]; rfl
 ·intro Y hY
  have e:=kw1 (x:=i) (by omega) (by omega)
  refine ih _ _ ⟨by omega,by omega,?_⟩ (by omega)
  rw [e,show (i + 1).toNat = i.toNat + 1 by omega]; exact hY
def hist (X : List (List Int)) : Nat → List (List Int)
  | 0=>[]
  | t + 1=>hist X t ++ X
theorem hist_len (X : List (List Int)) : ∀ t,(hist X t).length = t * X.length
 | 0=>by simp [hist]
 | t + 1=>by show (hist X t ++ X).length = _; rw [List.length_append,hist_len X t,Nat.add_mul,Nat.one_mul]
theorem hist_mem {X : List (List Int)} {m : Nat} (h : ∀ b ∈ X,b.length = m) : ∀ t,∀ b ∈ hist X t,b.length = m
 | 0,b,hb=>by cases hb
 | t + 1,b,hb=>(List.mem_append.1 hb).elim (hist_mem h t b) (h b)
theorem sh_mem {C : Int} {m : Nat} {X : List (List Int)} (h : Sh C m X) : ∀ b ∈ X,b.length = m:=fun b hb=>by
 obtain ⟨i,hi,rfl⟩:=List.mem_iff_getElem.1 hb
 have:=h.2 i (by omega) (by have:=h.1; omega)
 rw [row_get X (by omega) (by omega)] at this
 simp only [Int.toNat_natCast] at this
 omega
theorem rplay_x (p0 p1 p2 p3 p4 p5 p6 p7 p8 p9 : Int) {C m : Nat} (hC : C = 1 ∨ C = 2) (h2 : p2 = C) (hm : m = 4 ∨ m = 8) (h3 : p3 = m) (h4 : p4 = 4 ∨ p4 = 8 ∨ p4 = 12 ∨ p4 = 16) {P : List (List (List Int))} (hQ : Cd p2 p4 p3 P) (t : Nat) (ht : t ≤ 2) :
  Ok (fun r=>r = wall ((List.range C).map fun c : Nat=>outs m (hist (blk P c) t) (blk P c)) C (p4.toNat * m)) (psalteryref14_Play_2 5000 p0 p1 p2 p3 p4 p5 p6 p7 p8 p9 (List.replicate (t + 1) P)):=by
 have hQ1:=hQ.1
 refine Ok.bind (Q:=fun r=>r = (List.range C).map fun c : Nat=>outs m (hist (blk P c) t) (blk P c)) ?_ ?_
 ·unfold psalteryref14_Play.l2
  refine rounds_ok2 (fun c A=>0 ≤ c ∧ c ≤ (C : Int) ∧ A = (List.range c.toNat).map fun c : Nat=>outs m (hist (blk P c) t) (blk P c)) (fun c _=>((C : Int) - c).toNat) _ ?_ 5000 _ _ ⟨by omega,by omega,rfl⟩ (by omega)
  rintro next c A ⟨g1,g2,g3⟩ ih
  refine Ok.ite (fun d=>?_) (fun d=>Ok.some (by have:=df d; rw [g3,show c.toNat = C by omega]))
  have d:=dt d
  have hb:=hQ.2 c g1 (by omega)
  have hb1:=hb.1
  have hmem : ∀ b ∈ blk P c,b.length = m:=sh_mem (by rw [h3] at hb; exact hb)
  have hlen : ((blk P c).length : Int) = p4:=hb.1
  refine Ok.bind (Q:=fun o=>o = hist (blk P c) (t + 1)) ?_ ?_
  ·unfold psalteryref14_Play.l4
   refine rounds_ok2 (fun a E=>0 ≤ a ∧ a ≤ ((t + 1 : Nat) : Int) ∧ E = hist (blk P c) a.toNat) (fun a _=>(((t + 1 : Nat) : Int) - a).toNat) _ ?_ 5000 _ _ ⟨by omega,by omega,rfl⟩ (by omega)
   rintro next2 a E ⟨f1,f2,f3⟩ ih2
   have hall : (List.replicate (t + 1) P).length = t + 1:=List.length_replicate
   refine Ok.ite (fun d2=>?_) (fun d2=>Ok.some (by have:=df d2; rw [hall] at this; rw [f3,show a.toNat = t + 1 by omega]))
   have d2:=dt d2
   rw [hall] at d2
   have hP : Kd.nth (.slice (.slice (.slice (.int .i32)))) (List.replicate (t + 1) P) (Int.toNat a) = P:=by
    show (List.replicate (t + 1) P).getD a.toNat [] = P
    rw [List.getD_eq_getElem?_getD,List.getElem?_eq_getElem (by omega)]; simp
   have hE : E.length = a.toNat * (blk P c).length:=by rw [f3,hist_len]
   have hE2 : a.toNat * (blk P c).length ≤ 2 * 16:=Nat.mul_le_mul (by omega) (by omega)
   dsimp only
   rw [hP]
   refine Ok.gd ⟨f1,by rw [hall]; exact d2,g1,by omega,?_⟩ ?_
   ·show ((E.length : Int) + ((blk P c).length : Int)) * 24 ≤ _
    omega
   ·have e:=kw1 (x:=a) (by omega) (by omega)
    refine ih2 _ _ ⟨by omega,by omega,?_⟩ (by omega)
    rw [e,show (a + 1).toNat = a.toNat + 1 by omega,f3]; rfl
  ·rintro o rfl
   have hol : (hist (blk P c) (t + 1)).length = (hist (blk P c) t).length + (blk P c).length:=by show (hist (blk P c) t ++ blk P c).length = _; rw [List.length_append]
   have htl : (hist (blk P c) t).length ≤ 2 * 16:=by rw [hist_len]; exact Nat.mul_le_mul (by omega) (by omega)
   have hs : kwrap .i64 (((hist (blk P c) (t + 1)).length : Int) - p4) = ((hist (blk P c) t).length : Int):=by rw [kw64 (by omega) (by omega)]; omega
   dsimp only
   rw [hs]
   refine Ok.bind (Q:=fun r=>r = outs m (hist (blk P c) t) (blk P c)) ?_ ?_
   ·unfold psalteryref14_Play.l3
    refine rounds_ok2 (fun q E=>((hist (blk P c) t).length : Int) ≤ q ∧ q ≤ ((hist (blk P c) (t + 1)).length : Int) ∧ E = outs m (hist (blk P c) t) ((blk P c).take (q - ((hist (blk P c) t).length : Int)).toNat)) (fun q _=>(((hist (blk P c) (t + 1)).length : Int) - q).toNat) _ ?_ 5000 _ _ ⟨by omega,by omega,by rw [Int.sub_self]; rfl⟩ (by omega)
    rintro next2 q E ⟨f1,f2,f3⟩ ih2
    refine Ok.ite (fun d2=>?_) (fun d2=>Ok.some (by have:=df d2; rw [f3,List.take_of_length_le (by omega)]))
    have d2:=dt d2
    have eq1:=kw1 (x:=q) (by omega) (by omega)
    have eq9 : kwrap .i64 (q - 9) = q - 9:=kw64 (by omega) (by omega)
    dsimp only
    rw [eq1,eq9]
    have him : imax (q - 9) 0 = q - 9 ∧ 9 ≤ q ∨ imax (q - 9) 0 = 0 ∧ q ≤ 9:=by
     unfold imax; split <;> omega
    refine Ok.gd ⟨by omega,by omega,by omega⟩ ?_
    have hw:=join_w m hm (((hist (blk P c) (t + 1)).take (Int.toNat (q + 1))).drop (Int.toNat (imax (q - 9) 0))) (by rw [List.length_drop,List.length_take]; omega) (fun b hb'=>hist_mem hmem (t + 1) b (List.mem_of_mem_take (List.mem_of_mem_drop hb')))
    rw [stj_drop m _ _ _ (by rw [List.length_take]; omega) (by rw [List.length_take]; omega)] at hw
    have htk : (hist (blk P c) (t + 1)).take (Int.toNat (q + 1)) = hist (blk P c) t ++ (blk P c).take (q - ((hist (blk P c) t).length : Int)).toNat ++ [row (blk P c) (q - ((hist (blk P c) t).length : Int))]:=by
     rw [List.append_assoc,← take_row (blk P c) (by omega) (by omega)]
     show (hist (blk P c) t ++ blk P c).take _ = _
     rw [List.take_append,List.take_of_length_le (by omega),show Int.toNat (q + 1) - (hist (blk P c) t).length = (q - ((hist (blk P c) t).length : Int) + 1).toNat by omega]
    have hst : stj m (tuP m) ((hist (blk P c) (t + 1)).take (Int.toNat (q + 1))) = stj m (tuP m) (hist (blk P c) t ++ (blk P c).take (q - ((hist (blk P c) t).length : Int)).toNat ++ [row (blk P c) (q - ((hist (blk P c) t).length : Int))]):=by rw [htk]
    rw [hst] at hw
    rw [h3]
    refine Ok.bind (Ok.is hw) ?_
    rintro _ rfl
    have hEl : E.length ≤ 16 * 8:=by rw [f3,outs_len,List.length_take]; exact Nat.mul_le_mul (by omega) (by omega)
    have hjl : (jnl m (hP m) (stj m (tuP m) (hist (blk P c) t ++ (blk P c).take (q - ((hist (blk P c) t).length : Int)).toNat ++ [row (blk P c) (q - ((hist (blk P c) t).length : Int))]))).length = m:=tabOf_len _ _
    refine Ok.gd (by omega) ?_
    refine ih2 _ _ ⟨by omega,by omega,?_⟩ (by omega)
    rw [f3,show q + 1 - ((hist (blk P c) t).length : Int) = q - ((hist (blk P c) t).length : Int) + 1 by omega,take_row (blk P c) (by omega) (by omega),outs_snoc]
   ·rintro r rfl
    have hAl : A.length ≤ 2:=by rw [g3,List.length_map,List.length_range]; omega
    refine Ok.gd (by show ((A.length : Int) + 1) * 24 ≤ _; omega) ?_
    have e:=kw1 (x:=c) (by omega) (by omega)
    rw [e]
    refine ih _ _ ⟨by omega,by omega,?_⟩ (by omega)
    rw [show (c + 1).toNat = c.toNat + 1 by omega,List.range_succ,List.map_append,g3,List.map_cons,List.map_nil,Int.toNat_of_nonneg g1]
 ·rintro r rfl
  refine Ok.bind (rweave_x p0 p1 p2 p3 p4 p5 p6 p7 p8 p9 (C:=C) (n:=p4.toNat * m) ⟨by simp,fun c c0 c1=>?_⟩ hC h2 ?_) (fun r hr=>Ok.some hr)
  ·have hb:=hQ.2 c c0 (by omega)
   rw [row_get _ c0 (by simpa using c1),List.getElem_map,List.getElem_range,outs_len,Int.toNat_of_nonneg c0]
   have:=hb.1
   push_cast
   rw [this,Int.toNat_of_nonneg (by omega)]
  ·have : p4.toNat * m ≤ 16 * 8:=Nat.mul_le_mul (by omega) (by omega)
   omega
end Go.Fo
