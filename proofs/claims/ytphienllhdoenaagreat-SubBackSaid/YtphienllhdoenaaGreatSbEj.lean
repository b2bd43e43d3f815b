/- The law. -/
import Derived.Test.YtphienllhdoenaaGreatSbEi
namespace Go.Fo
set_option maxRecDepth 6000
theorem feed3_ok (p0 p1 p3 p4 p5 p6 p7 p8 p9 : Int) (hm : may0 p0 p1 2 p3 p4 p5 p6 p7 p8 p9) {x h turn h' turn' V1 V2 : List Int} (hx : (x.length : Int) = 2 * p3 * p4) (hh : (h.length : Int) = 10 * p3) (ht : (turn.length : Int) = 8 * p3) (hh' : (h'.length : Int) = 10 * p3) (ht' : (turn'.length : Int) = 8 * p3) (hV1 : (V1.length : Int) = 10 * p3) (hV2 : (V2.length : Int) = 10 * p3) :
  Ok (fun r=>r.2.1 = 0 ∧ (r.2.2.1.length : Int) = 10 * p3 ∧ (r.2.2.2.length : Int) = 10 * p3 ∧ Fr p0 p1 2 p3 p4 p5 p6 p7 p8 p9 r.1) (subband_Encoder_Feed_3 5000 x p0 p1 2 p3 p4 p5 p6 p7 p8 p9 p3 h turn p3 h' turn' V1 V2):=by
 have h3 : p3 = 4 ∨ p3 = 8:=hm.1.2.2.2.2.1
 have h4 : p4 = 4 ∨ p4 = 8 ∨ p4 = 12 ∨ p4 = 16:=hm.1.2.2.2.2.2.1
 have hn : 16 ≤ p3 * p4 ∧ p3 * p4 ≤ 128 ∧ 2 * p3 * p4 = p3 * p4 * 2:=by rcases h3 with rfl | rfl <;> rcases h4 with rfl | rfl | rfl | rfl <;> decide
 have e1 : kwrap .i64 (kwrap .i64 (2 * p3) * p4) = 2 * p3 * p4:=by rw [kw64 (x:=2 * p3) (by omega) (by omega),kw64 (by omega) (by omega)]
 unfold subband_Encoder_Feed_3
 dsimp only
 rw [e1]
 refine Ok.ite (fun c=>by rw [hx,bne_self_eq_false] at c; cases c) (fun _=>?_)
 refine Ok.bind (part_ok (C:=2) (n:=p3 * p4) (.inr rfl) (by rw [hx]; exact hn.2.2) (by omega) (by omega)) ?_
 rintro ⟨L,le⟩ ⟨_,hL⟩
 have hL : Sh 2 (p3 * p4) L:=hL
 have hL1 : (L.length : Int) = 2:=hL.1
 refine Ok.gd ⟨by decide,by decide,by decide⟩ (Ok.bind (Q:=fun r=>(r.1.length : Int) = 10 * p3 ∧ (r.2.1.length : Int) = 10 * p3 ∧ Cd 2 p4 p3 r.2.2) ?_ ?_)
 ·unfold subband_Encoder_Feed_3.l0
  refine rounds_ok4 (fun c V W X=>0 ≤ c ∧ c ≤ 2 ∧ (V.length : Int) = 10 * p3 ∧ (W.length : Int) = 10 * p3 ∧ PC 2 p4 p3 c 0 X) (fun c _ _ _=>(2 - c).toNat) _ ?_ 5000 _ _ _ _ ⟨by omega,by omega,hV1,hV2,PC.rep (by omega)⟩ (by omega)
  rintro next c V W X ⟨g1,g2,g3,g4,g5⟩ ih
  refine Ok.ite (fun d=>?_) (fun d=>Ok.some ⟨g3,g4,?_⟩)
  ·have d : c < (L.length : Int):=dt d
   have hc : c = 0 ∨ c = 1:=by omega
   have hrow:=hL.2 c (by omega) (by omega)
   refine Ok.gd ⟨by omega,d⟩ (Ok.bind (Q:=fun r=>r.1 = c ∧ (r.2.1.length : Int) = 10 * p3 ∧ (r.2.2.1.length : Int) = 10 * p3 ∧ PC 2 p4 p3 c p4 r.2.2.2) ?_ ?_)
   ·unfold subband_Encoder_Feed_3.l1
    refine rounds_ok5 (fun a y V W X=>a = c ∧ (V.length : Int) = 10 * p3 ∧ (W.length : Int) = 10 * p3 ∧ ∃ k,0 ≤ k ∧ k ≤ p4 ∧ y = p3 * k ∧ PC 2 p4 p3 c k X) (fun _ y _ _ _=>(1000 - y).toNat) _ ?_ 5000 _ _ _ _ _ ⟨rfl,g3,g4,0,by omega,by omega,by rw [Int.mul_zero],g5⟩ (by omega)
    rintro next2 a y V W X ⟨rfl,f1,f1',k,f2,f3,rfl,f4⟩ ih2
    obtain ⟨k1,k2,k3⟩:=mulk h3 f2 (show k ≤ 100 by omega)
    refine Ok.ite (fun d2=>?_) (fun d2=>Ok.some ⟨rfl,f1,f1',?_⟩)
    ·have d2 : p3 * k < ((row L a).length : Int):=dt d2
     have hk:=mlt h3 (show p3 * k < p3 * p4 by omega)
     have hk2:=mle h3 hk
     have e2 : kwrap .i64 (p3 * k + p3) = p3 * k + p3:=kw64 (by omega) (by omega)
     have hX:=f4.1
     have hXl:=f4.len (by omega) (by omega)
     have hsl:=seg_len (l:=row L a) (y:=p3 * k) (m:=p3) k2 (by omega) (by omega)
     refine Ok.bind (Q:=fun r=>r.1 = a ∧ (r.2.1.length : Int) = 10 * p3 ∧ (r.2.2.1.length : Int) = 10 * p3 ∧ PC 2 p4 p3 a (k + 1) r.2.2.2) ?_ ?_
     ·rcases hc with rfl | rfl
      ·refine Ok.ite (fun _=>?_) (fun h=>by cases h)
       dsimp only
       rw [e2]
       refine Ok.gd ⟨k2,by omega,by show _ ≤ ((row L 0).length : Int); omega⟩ (Ok.bind (sfeed_ok h3 hsl hh ht f1) ?_)
       rintro ⟨r,e,V'⟩ ⟨hr,hV'⟩
       exact Ok.gd ⟨by omega,by omega,by show (((X.getD (Int.toNat 0) []).length : Int) + 1) * 24 ≤ _; omega,by omega,by omega⟩ (Ok.some ⟨rfl,hV',f1',f4.app (by omega) (by omega) hr⟩)
      ·refine Ok.ite (fun h=>by cases h) (fun _=>Ok.ite (fun _=>?_) (fun h=>by cases h))
       dsimp only
       rw [e2]
       refine Ok.gd ⟨k2,by omega,by show _ ≤ ((row L 1).length : Int); omega⟩ (Ok.bind (sfeed_ok h3 hsl hh' ht' f1') ?_)
       rintro ⟨r,e,V'⟩ ⟨hr,hV'⟩
       exact Ok.gd ⟨by omega,by omega,by show (((X.getD (Int.toNat 1) []).length : Int) + 1) * 24 ≤ _; omega,by omega,by omega⟩ (Ok.some ⟨rfl,f1,hV',f4.app (by omega) (by omega) hr⟩)
     ·rintro ⟨a',V',W',X'⟩ ⟨q1,q2,q3,q4⟩
      have q1 : a' = a:=q1
      subst q1
      dsimp only
      rw [e2]
      exact ih2 _ _ _ _ _ ⟨rfl,q2,q3,k + 1,by omega,by omega,k1.symm,q4⟩ (by omega)
    ·have d2 : ¬ p3 * k < ((row L a).length : Int):=df d2
     have : k = p4:=by
      have : ¬ k < p4:=fun h=>by have:=mle h3 h; omega
      omega
     subst this
     exact f4
   ·rintro ⟨a,V',W',X'⟩ ⟨ha,hV',hW',hX'⟩
    have ha : a = c:=ha
    subst ha
    have e:=kw1 (x:=a) (by omega) (by omega)
    dsimp only
    rw [e]
    exact ih _ _ _ _ ⟨by omega,by omega,hV',hW',PC.nxt hX'⟩ (by omega)
  ·have d : ¬ c < (L.length : Int):=df d
   have : c = 2:=by omega
   subst this
   exact g5.all
 ·rintro ⟨V',W',X⟩ ⟨hV',hW',hX⟩
  refine Ok.bind (analyse_ok p0 p1 2 p3 p4 p5 p6 p7 p8 p9 hm hX) ?_
  rintro ⟨J,S,Q,e⟩ ⟨_,C,B,z,hS,hP⟩
  refine Ok.bind (fr_of p0 p1 2 p3 p4 p5 p6 p7 p8 p9 hS hP) ?_
  rintro ⟨b,be⟩ ⟨hb,hf⟩
  exact Ok.some ⟨hb,hV',hW',hf⟩
theorem cpy_len (n : Nat) (d s : List Int) : (cpy n d s).length = d.length:=by unfold cpy; simp; omega
theorem beqs_self (s : ByteArray) : beqs s s = true:=by unfold beqs; exact beq_self_eq_true _
theorem ask_ok (p0 p1 p2 p3 p4 p5 p6 p7 p8 p9 : Int) (hm : may0 p0 p1 p2 p3 p4 p5 p6 p7 p8 p9) {b : List Int} (hf : Fr p0 p1 p2 p3 p4 p5 p6 p7 p8 p9 b) {β : Type} {k : Option β} {R : β → Prop} (hk : Ok R k) (f : Bool → Option β) (hfk : f false = k) :
    Ok R ((subband_Parse 5000 p0 p1 p2 p3 p4 p5 p6 p7 p8 p9 b).bind fun (r361,r362,r363,r364)=>
   (subband_Pack 5000 p0 p1 p2 p3 p4 p5 p6 p7 p8 p9 r361 r362 r363).bind fun (r365,r366)=>
   (subband_Planes 5000 p0 p1 p2 p3 p4 p5 p6 p7 p8 p9 r361 r362 r363).bind fun (r367,r368)=>
   (
    let v371:=(bif ((0 : Int) != 0) then true else (r364 != 0))
    let v372:=(bif v371 then true else (r366 != 0))
    let v373:=(bif v372 then true else (r368 != 0))
    bif v373 then
     some true
    else
     (psalteryref11_Payload 5000 p0 p1 p2 p3 p4 p5 p6 p7 p8 p9).bind fun r374=>
     let v375:=((b.length : Int) != r374)
     let v376:=(!(beqs (bstr r365) (bstr b)))
     let v377:=(bif v375 then true else v376)
     let v378:=((r367.length : Int) != p2)
     let v379:=(bif v377 then true else v378)
     some v379 : Option (Bool)).bind f):=by
  obtain ⟨hl,J,S,Q,X,h1,h2,h3,h4⟩:=hf
  refine Ok.bind (Ok.is h1) ?_
  rintro _ rfl
  refine Ok.bind (Ok.is h2) ?_
  rintro _ rfl
  refine Ok.bind (Ok.is h3) ?_
  rintro _ rfl
  refine Ok.bind (Q:=fun x=>x = false) (Ok.ite (fun h=>by cases h) (fun _=>Ok.bind (refpay_ok p0 p1 p2 p3 p4 p5 p6 p7 p8 p9 hm.1) ?_)) ?_
  · rintro _ rfl
    refine Ok.some ?_
    show (bif (bif ((b.length : Int) != payZ p2 p3 p4 p6 p7) then true else !(beqs (bstr b) (bstr b))) then true else ((X.length : Int) != p2)) = false
    rw [hl,h4,bne_self_eq_false,bne_self_eq_false,beqs_self]; rfl
  · rintro _ rfl
    rw [hfk]; exact hk
theorem back1 (p0 p1 p3 p4 p5 p6 p7 p8 p9 : Int) (hm : may0 p0 p1 1 p3 p4 p5 p6 p7 p8 p9) {h turn V0 : List Int} (hh : (h.length : Int) = 10 * p3) (ht : (turn.length : Int) = 8 * p3) (hV : (V0.length : Int) = 10 * p3) {L : List Int} (hL : L.length ≤ 1000) {c1 : Int} (hc : c1 = p3 * p4) :
  Ok (fun z=>∃ f v,z = .inl (f,v) ∧ (v.length : Int) = 10 * p3 ∧ (0 < L.length → ∃ v2,subband_Encoder_Feed_2 5000 (cpy 0 (List.replicate (Int.toNat c1) 0) L) p0 p1 1 p3 p4 p5 p6 p7 p8 p9 p3 h turn V0 = some (f,0,v2))) (psalterylaw14_SubBack.l1 5000 L c1 p0 p1 1 p3 p4 p5 p6 p7 p8 p9 p3 h turn 5000 ([] : List Int) 0 V0):=by
 have h3 : p3 = 4 ∨ p3 = 8:=hm.1.2.2.2.2.1
 have h4 : p4 = 4 ∨ p4 = 8 ∨ p4 = 12 ∨ p4 = 16:=hm.1.2.2.2.2.2.1
 have hn : 16 ≤ p3 * p4 ∧ p3 * p4 ≤ 128:=by rcases h3 with rfl | rfl <;> rcases h4 with rfl | rfl | rfl | rfl <;> decide
 have hrl : ((List.replicate (Int.toNat c1) (0 : Int)).length : Int) = c1:=by simp; omega
 unfold psalterylaw14_SubBack.l1
 refine rounds_ok3 (fun f a V=>0 ≤ a ∧ a ≤ 2000 ∧ (V.length : Int) = 10 * p3 ∧ (a = 0 → V = V0) ∧ (0 < a → ∃ v2,subband_Encoder_Feed_2 5000 (cpy 0 (List.replicate (Int.toNat c1) 0) L) p0 p1 1 p3 p4 p5 p6 p7 p8 p9 p3 h turn V0 = some (f,0,v2))) (fun _ a _=>(3000 - a).toNat) _ ?_ 5000 _ _ _ ⟨by omega,by omega,hV,fun _=>rfl,fun h=>by omega⟩ (by omega)
 rintro next f a V ⟨g1,g2,g3,g4,g5⟩ ih
 refine Ok.ite (fun d=>?_) (fun d=>Ok.some ⟨f,V,rfl,g3,fun hp=>g5 ?_⟩)
 ·have d:=dt d
  have e:=kw64 (x:=a + c1) (by omega) (by omega)
  refine Ok.bind (Q:=fun z=>∃ f' V',z = .inl (f',V') ∧ (V'.length : Int) = 10 * p3 ∧ ∃ v2,subband_Encoder_Feed_2 5000 (cpy 0 (List.replicate (Int.toNat c1) 0) L) p0 p1 1 p3 p4 p5 p6 p7 p8 p9 p3 h turn V0 = some (f',0,v2)) ?_ ?_
  ·refine Ok.gd ⟨by omega,by omega,by omega⟩ (Ok.gd ⟨g1,by omega,by omega⟩ ?_)
   obtain ⟨⟨b,e0,V'⟩,hE,he,hV',hf⟩:=feed2_ok p0 p1 p3 p4 p5 p6 p7 p8 p9 hm (x:=cpy 0 (List.replicate (Int.toNat c1) 0) ((L.take (Int.toNat (L.length : Int))).drop (Int.toNat a))) (by rw [cpy_len]; omega) hh ht g3
   have he : e0 = 0:=he
   subst he
   refine Ok.bind (Ok.is hE) ?_
   rintro _ rfl
   refine ask_ok p0 p1 1 p3 p4 p5 p6 p7 p8 p9 hm hf (k:=bif (a == 0) then some (.inl (b,V')) else some (.inl (f,V'))) (Ok.ite (fun ca=>?_) (fun ca=>?_)) _ rfl
   ·have ca : a = 0:=by simpa using ca
    have hV0:=g4 ca
    rw [ca,hV0] at hE
    refine Ok.some ⟨b,V',rfl,hV',V',?_⟩
    have e0 : (L.take (Int.toNat (L.length : Int))).drop (Int.toNat 0) = L:=by
     show (L.take L.length).drop 0 = L
     rw [List.take_length,List.drop_zero]
    rw [e0] at hE; exact hE
   ·have ca : ¬ a = 0:=by simpa using ca
    exact Ok.some ⟨f,V',rfl,hV',g5 (by omega)⟩
  ·rintro _ ⟨f',V',rfl,hV',hx⟩
   dsimp only
   rw [e]
   exact ih _ _ _ ⟨by omega,by omega,hV',fun h=>by omega,fun _=>hx⟩ (by omega)
 ·have d:=df d
  omega
theorem back2 (p0 p1 p3 p4 p5 p6 p7 p8 p9 : Int) (hm : may0 p0 p1 2 p3 p4 p5 p6 p7 p8 p9) {h turn h' turn' V0 W0 : List Int} (hh : (h.length : Int) = 10 * p3) (ht : (turn.length : Int) = 8 * p3) (hh' : (h'.length : Int) = 10 * p3) (ht' : (turn'.length : Int) = 8 * p3) (hV : (V0.length : Int) = 10 * p3) (hW : (W0.length : Int) = 10 * p3) {L : List Int} (hL : L.length ≤ 1000) {c1 : Int} (hc : c1 = 2 * p3 * p4) :
  Ok (fun z=>∃ f v w,z = .inl (f,v,w) ∧ (v.length : Int) = 10 * p3 ∧ (w.length : Int) = 10 * p3 ∧ (0 < L.length → ∃ v2 w2,subband_Encoder_Feed_3 5000 (cpy 0 (List.replicate (Int.toNat c1) 0) L) p0 p1 2 p3 p4 p5 p6 p7 p8 p9 p3 h turn p3 h' turn' V0 W0 = some (f,0,v2,w2))) (psalterylaw14_SubBack.l2 5000 L c1 p0 p1 2 p3 p4 p5 p6 p7 p8 p9 p3 h turn p3 h' turn' 5000 ([] : List Int) 0 V0 W0):=by
 have h3 : p3 = 4 ∨ p3 = 8:=hm.1.2.2.2.2.1
 have h4 : p4 = 4 ∨ p4 = 8 ∨ p4 = 12 ∨ p4 = 16:=hm.1.2.2.2.2.2.1
 have hn : 16 ≤ 2 * p3 * p4 ∧ 2 * p3 * p4 ≤ 256:=by rcases h3 with rfl | rfl <;> rcases h4 with rfl | rfl | rfl | rfl <;> decide
 have hrl : ((List.replicate (Int.toNat c1) (0 : Int)).length : Int) = c1:=by simp; omega
 unfold psalterylaw14_SubBack.l2
 refine rounds_ok4 (fun f a V W=>0 ≤ a ∧ a ≤ 2000 ∧ ((V.length : Int) = 10 * p3 ∧ (W.length : Int) = 10 * p3) ∧ (a = 0 → V = V0 ∧ W = W0) ∧ (0 < a → ∃ v2 w2,subband_Encoder_Feed_3 5000 (cpy 0 (List.replicate (Int.toNat c1) 0) L) p0 p1 2 p3 p4 p5 p6 p7 p8 p9 p3 h turn p3 h' turn' V0 W0 = some (f,0,v2,w2))) (fun _ a _ _=>(3000 - a).toNat) _ ?_ 5000 _ _ _ _ ⟨by omega,by omega,⟨hV,hW⟩,fun _=>⟨rfl,rfl⟩,fun h=>by omega⟩ (by omega)
 rintro next f a V W ⟨g1,g2,g3,g4,g5⟩ ih
 refine Ok.ite (fun d=>?_) (fun d=>Ok.some ⟨f,V,W,rfl,g3.1,g3.2,fun hp=>g5 ?_⟩)
 ·have d:=dt d
  have e:=kw64 (x:=a + c1) (by omega) (by omega)
  refine Ok.bind (Q:=fun z=>∃ f' V' W',z = .inl (f',V',W') ∧ (V'.length : Int) = 10 * p3 ∧ (W'.length : Int) = 10 * p3 ∧ ∃ v2 w2,subband_Encoder_Feed_3 5000 (cpy 0 (List.replicate (Int.toNat c1) 0) L) p0 p1 2 p3 p4 p5 p6 p7 p8 p9 p3 h turn p3 h' turn' V0 W0 = some (f',0,v2,w2)) ?_ ?_
  ·refine Ok.gd ⟨by omega,by omega,by omega⟩ (Ok.gd ⟨g1,by omega,by omega⟩ ?_)
   obtain ⟨⟨b,e0,V',W'⟩,hE,he,hV',hW',hf⟩:=feed3_ok p0 p1 p3 p4 p5 p6 p7 p8 p9 hm (x:=cpy 0 (List.replicate (Int.toNat c1) 0) ((L.take (Int.toNat (L.length : Int))).drop (Int.toNat a))) (by rw [cpy_len]; omega) hh ht hh' ht' g3.1 g3.2
   have he : e0 = 0:=he
   subst he
   refine Ok.bind (Ok.is hE) ?_
   rintro _ rfl
   refine ask_ok p0 p1 2 p3 p4 p5 p6 p7 p8 p9 hm hf (k:=bif (a == 0) then some (.inl (b,V',W')) else some (.inl (f,V',W'))) (Ok.ite (fun ca=>?_) (fun ca=>?_)) _ rfl
   ·have ca : a = 0:=by simpa using ca
    obtain ⟨hV0,hW0⟩:=g4 ca
    rw [ca,hV0,hW0] at hE
    refine Ok.some ⟨b,V',W',rfl,hV',hW',V',W',?_⟩
    have e0 : (L.take (Int.toNat (L.length : Int))).drop (Int.toNat 0) = L:=by
     show (L.take L.length).drop 0 = L
     rw [List.take_length,List.drop_zero]
    rw [e0] at hE; exact hE
   ·have ca : ¬ a = 0:=by simpa using ca
    exact Ok.some ⟨f,V',W',rfl,hV',hW',g5 (by omega)⟩
  ·rintro _ ⟨f',V',W',rfl,hV',hW',hx⟩
   dsimp only
   rw [e]
   exact ih _ _ _ _ ⟨by omega,by omega,⟨hV',hW'⟩,fun h=>by omega,fun _=>hx⟩ (by omega)
 ·have d:=df d
  omega
def nsB (m : Int) : Bool:=match poly_NewSplitter 5000 m (List.replicate 388 none) 0 0 with
  | some (.inr (t,a,b,m',h,u,V))=>m' == m && (h.length : Int) == 10 * m && (u.length : Int) == 8 * m && V == List.replicate (10 * m).toNat 0 && (match poly_NewSplitter 5000 m t a b with
    | some (.inr (_,_,_,m2,h2,u2,V2))=>m2 == m && (h2.length : Int) == 10 * m && (u2.length : Int) == 8 * m && V2 == List.replicate (10 * m).toNat 0
    | _=>false)
  | _=>false
theorem ns4 : nsB 4 = true:=by kernel_rfl
theorem ns8 : nsB 8 = true:=by kernel_rfl
theorem ns_ok {m : Int} (hm : m = 4 ∨ m = 8) : ∃ t a b h u,poly_NewSplitter 5000 m (List.replicate 388 none) 0 0 = some (.inr (t,a,b,m,h,u,List.replicate (10 * m).toNat 0)) ∧ (h.length : Int) = 10 * m ∧ (u.length : Int) = 8 * m ∧
  ∃ t2 a2 b2 h2 u2,poly_NewSplitter 5000 m t a b = some (.inr (t2,a2,b2,m,h2,u2,List.replicate (10 * m).toNat 0)) ∧ (h2.length : Int) = 10 * m ∧ (u2.length : Int) = 8 * m:=by
 have h : nsB m = true:=by
  rcases hm with rfl | rfl
  ·exact ns4
  ·exact ns8
 unfold nsB at h
 split at h
 ·rename_i t a b m' h' u V e
  simp only [Bool.and_eq_true,beq_iff_eq] at h
  obtain ⟨⟨⟨⟨h1,h2⟩,h3⟩,h4⟩,h5⟩:=h
  split at h5
  ·rename_i t2 a2 b2 m2 h2' u2 V2 e2
   simp only [Bool.and_eq_true,beq_iff_eq] at h5
   obtain ⟨⟨⟨k1,k2⟩,k3⟩,k4⟩:=h5
   exact ⟨t,a,b,h',u,by rw [e,h1,h4],h2,h3,t2,a2,b2,h2',u2,by rw [e2,k1,k4],k2,k3⟩
  ·cases h5
 ·cases h
theorem alive_t : psalterylaw14_alive 5000 = some true:=by kernel_rfl
theorem bank_t : ∃ u,bank_New 5000 = some u:=⟨_,rfl⟩
theorem rep_same {v : List Int} {m : Int} (h : (v.length : Int) = 10 * m) : List.replicate v.length (0 : Int) = List.replicate (10 * m).toNat 0:=by rw [show v.length = (10 * m).toNat by omega]
theorem back_w (p0 p1 p2 p3 p4 p5 p6 p7 p8 p9 : Int) (L : List Int) : psalterylaw14_SubBack 5000 p0 p1 p2 p3 p4 p5 p6 p7 p8 p9 L = some true:=by
 have key : Ok (fun r=>r = true) (psalterylaw14_SubBack 5000 p0 p1 p2 p3 p4 p5 p6 p7 p8 p9 L):=by
  refine Ok.bind (Ok.is alive_t) ?_
  rintro _ rfl
  refine Ok.ite (fun h=>by cases h) (fun _=>?_)
  obtain ⟨u,hu⟩:=bank_t
  refine Ok.bind (Ok.is hu) ?_
  intro _ _
  by_cases hm : may0 p0 p1 p2 p3 p4 p5 p6 p7 p8 p9
  ·have h2 : p2 = 1 ∨ p2 = 2:=hm.1.2.2.2.1
   have h3 : p3 = 4 ∨ p3 = 8:=hm.1.2.2.2.2.1
   have h4 : p4 = 4 ∨ p4 = 8 ∨ p4 = 12 ∨ p4 = 16:=hm.1.2.2.2.2.2.1
   have hV0 : ((List.replicate (10 * p3).toNat (0 : Int)).length : Int) = 10 * p3:=by simp; omega
   obtain ⟨t,a,b,h,u,e,c1,c2,t2,a2,b2,h',u',e',d1,d2⟩:=ns_ok (m:=p3) h3
   have hmay : subband_may 5000 p0 p1 p2 p3 p4 p5 p6 p7 p8 p9 = some 0:=(smay_w p0 p1 p2 p3 p4 p5 p6 p7 p8 p9).trans (by rw [if_pos hm])
   rcases h2 with h2 | h2
   ·subst h2
    have hn : 16 ≤ p3 * p4 ∧ p3 * p4 ≤ 128:=by rcases h3 with rfl | rfl <;> rcases h4 with rfl | rfl | rfl | rfl <;> decide
    have hd : subband_NewEncoder 5000 p0 p1 1 p3 p4 p5 p6 p7 p8 p9 (List.replicate 388 none) 0 0 = some (.inr (.inl (t,a,b,p3,h,u,List.replicate (10 * p3).toNat 0))) :=
     bnd_eq hmay (bif_eq_f rfl (bif_eq_t rfl (bnd_eq e rfl)))
    refine Ok.bind (Ok.is hd) ?_
    rintro _ rfl
    refine Ok.ite (fun _=>Ok.some rfl) (fun dl=>?_)
    have dl:=df dl
    have e1 : kwrap .i64 (kwrap .i64 (1 * p3) * p4) = p3 * p4:=by rw [Int.one_mul,kw64 (x:=p3) (by omega) (by omega),kw64 (by omega) (by omega)]
    dsimp only
    rw [e1]
    refine Ok.bind (back1 p0 p1 p3 p4 p5 p6 p7 p8 p9 hm c1 c2 hV0 (L:=L) (by omega) rfl) ?_
    rintro _ ⟨f,v,rfl,hv,hf⟩
    refine Ok.ite (fun _=>Ok.some rfl) (fun dz=>?_)
    have dz : ¬ ((L.length : Int)) = 0:=by simpa using dz
    obtain ⟨v2,hf⟩:=hf (by omega)
    refine Ok.bind (Q:=fun r=>r = List.replicate (10 * p3).toNat 0) (Ok.bind (Q:=fun r=>r = List.replicate (10 * p3).toNat 0) (Ok.bind (Q:=fun r=>r = List.replicate (10 * p3).toNat 0) (Ok.some (rep_same hv)) (fun r hr=>Ok.some hr)) (fun r hr=>Ok.some hr)) ?_
    rintro _ rfl
    refine Ok.gd ⟨by omega,by omega,by omega⟩ (Ok.bind (Ok.is hf) ?_)
    rintro _ rfl
    exact Ok.some (by rw [beqs_self]; rfl)
   ·subst h2
    have hn : 16 ≤ 2 * p3 * p4 ∧ 2 * p3 * p4 ≤ 256:=by rcases h3 with rfl | rfl <;> rcases h4 with rfl | rfl | rfl | rfl <;> decide
    have hd : subband_NewEncoder 5000 p0 p1 2 p3 p4 p5 p6 p7 p8 p9 (List.replicate 388 none) 0 0 = some (.inr (.inr (t2,a2,b2,p3,h,u,p3,h',u',List.replicate (10 * p3).toNat 0,List.replicate (10 * p3).toNat 0))) :=
     bnd_eq hmay (bif_eq_f rfl (bif_eq_f rfl (bif_eq_t rfl (bnd_eq e (bnd_eq e' rfl)))))
    refine Ok.bind (Ok.is hd) ?_
    rintro _ rfl
    refine Ok.ite (fun _=>Ok.some rfl) (fun dl=>?_)
    have dl:=df dl
    have e1 : kwrap .i64 (kwrap .i64 (2 * p3) * p4) = 2 * p3 * p4:=by rw [kw64 (x:=2 * p3) (by omega) (by omega),kw64 (by omega) (by omega)]
    dsimp only
    rw [e1]
    refine Ok.bind (back2 p0 p1 p3 p4 p5 p6 p7 p8 p9 hm c1 c2 d1 d2 hV0 hV0 (L:=L) (by omega) rfl) ?_
    rintro _ ⟨f,v,w,rfl,hv,hw,hf⟩
    refine Ok.ite (fun _=>Ok.some rfl) (fun dz=>?_)
    have dz : ¬ ((L.length : Int)) = 0:=by simpa using dz
    obtain ⟨v2,w2,hf⟩:=hf (by omega)
    refine Ok.bind (Q:=fun r=>r = (List.replicate (10 * p3).toNat 0,List.replicate (10 * p3).toNat 0)) (Ok.bind (Q:=fun r=>r = (List.replicate (10 * p3).toNat 0,List.replicate (10 * p3).toNat 0)) (Ok.bind (Q:=fun r=>r = List.replicate (10 * p3).toNat 0) (Ok.some (rep_same hv)) ?_) (fun r hr=>Ok.some hr)) ?_
    ·rintro _ rfl
     refine Ok.bind (Q:=fun r=>r = List.replicate (10 * p3).toNat 0) (Ok.some (rep_same hw)) ?_
     rintro _ rfl
     exact Ok.some rfl
    rintro _ rfl
    refine Ok.gd ⟨by omega,by omega,by omega⟩ (Ok.bind (Ok.is hf) ?_)
    rintro _ rfl
    exact Ok.some (by rw [beqs_self]; rfl)
  ·have hmay : subband_may 5000 p0 p1 p2 p3 p4 p5 p6 p7 p8 p9 = some 110:=(smay_w p0 p1 p2 p3 p4 p5 p6 p7 p8 p9).trans (by rw [if_neg hm])
   have hd : subband_NewEncoder 5000 p0 p1 p2 p3 p4 p5 p6 p7 p8 p9 (List.replicate 388 none) 0 0 = some (.inl 110):=bnd_eq hmay (bif_eq_t rfl rfl)
   refine Ok.bind (Ok.is hd) ?_
   rintro _ rfl
   refine Ok.ite (fun _=>Ok.some rfl) (fun h=>by cases h)
 obtain ⟨_,h,rfl⟩:=key
 exact h
end Go.Fo
