/- The formats of Sub: what may be. -/
import Derived.Test.YtiihmaaobmpabaaGreatSfF
import Derived.Test.YtiihmaaobmpabaaGreatJ3
namespace Go.Fo
def w (a b c:Int):Bool:=decide (b<=a)&&decide (a<=c)
theorem xu (a b c:Int):zf 5000 a b c=some (w a b c):=by
 unfold w; simp only [zf]; by_cases h:b<=a<;>simp [h]
theorem MF:∀ a b:Bool,kE 5000 [a,b]=some (a&&b):=by intro a b; cases a<;>cases b<;>rfl
theorem MA:∀ a b c:Bool,kE 5000 [a,b,c]=some (a&&(b&&c)):=by intro a b c; cases a<;>cases b<;>cases c<;>rfl
theorem gO:∀ a b c d e f:Bool,kE 5000 [a,b,c,d,e,f]=some (a&&(b&&(c&&(d&&(e&&f))))):=by intro a b c d e f; cases a<;>cases b<;>cases c<;>cases d<;>cases e<;>cases f<;>rfl
def may (n:Int):Bool:=(n==40)||((n==60)||((n==80)||(n==120)))
theorem WG (l:List Int) (n c:Int) (m:Nat) (i:Int) (h0:0<=i) (h1:i<c) (h2:c=(l.length:Int)) (h3:c<=1000) (hn:(n==Kd.nth (.int .i64) l (Int.toNat i))=false):w8.l0 5000 l n c (m+1) i=w8.l0 5000 l n c m (i+1):=by
 show w8.r0 5000 l n c (w8.l0 5000 l n c m) i=_
 refine wO (decide_eq_true h1) (zi ⟨h0,by omega⟩ (wA hn ?_))
 rw [wX (by omega) (by omega)]
theorem Vg (n:Int):qW 5000 [40,60,80,120] n=some (may n):=by
 by_cases h1:n=40
 ·subst h1; rfl
 by_cases h2:n=60
 ·subst h2; rfl
 by_cases h3:n=80
 ·subst h3; rfl
 by_cases h4:n=120
 ·subst h4; rfl
 have e1:(n==40)=false:=by simpa using h1
 have e2:(n==60)=false:=by simpa using h2
 have e3:(n==80)=false:=by simpa using h3
 have e4:(n==120)=false:=by simpa using h4
 have hm:may n=false:=by unfold may; rw [e1,e2,e3,e4]; rfl
 rw [hm]
 refine wr (x:=-1) (wr (x:=.inl ()) ?_ rfl) rfl
 show w8.l0 5000 [40,60,80,120] n 4 (4999+1) 0=_
 rw [WG [40,60,80,120] n 4 4999 0 (by decide) (by decide) rfl (by decide) e1]
 show w8.l0 5000 [40,60,80,120] n 4 (4998+1) 1=_
 rw [WG [40,60,80,120] n 4 4998 1 (by decide) (by decide) rfl (by decide) e2]
 show w8.l0 5000 [40,60,80,120] n 4 (4997+1) 2=_
 rw [WG [40,60,80,120] n 4 4997 2 (by decide) (by decide) rfl (by decide) e3]
 show w8.l0 5000 [40,60,80,120] n 4 (4996+1) 3=_
 rw [WG [40,60,80,120] n 4 4996 3 (by decide) (by decide) rfl (by decide) e4]
 rfl
def v9 (p0 p1 p2 p3 p4 p5 p6 p7 p8 p9:Int):Bool :=
  bif p0==1 then (w p1 0 3&&w p2 1 2)&&((bif p3==4 then true else p3==8)&&((bif Int.tmod p4 4==0 then w p4 4 16 else false)&&(w p5 0 1&&(w p6 0 (wa .i64 (p2-1))&&(w p7 2 (imin (wa .i64 (wa .i64 (16*p3)*p2)) 250)&&(bif p8==0 then p9==0 else false))))))
  else bif p0==2 then (w p1 0 3&&w p2 1 2)&&(may p8&&(w p9 20 120&&(bif (bif (bif (bif p3==0 then p4==0 else false) then p5==0 else false) then p6==0 else false) then p7==0 else false)))
  else false
theorem Z5 (p0 p1 p2 p3 p4 p5 p6 p7 p8 p9:Int):jY 5000 p0 p1 p2 p3 p4 p5 p6 p7 p8 p9=some (v9 p0 p1 p2 p3 p4 p5 p6 p7 p8 p9):=by
 refine wr (xu p1 0 3) (wr (xu p2 1 2) (wr (MF _ _) ?_))
 unfold v9
 generalize (w p1 0 3&&w p2 1 2)=q
 rcases Bool.eq_false_or_eq_true (p0==1) with e | e
 ·refine wO e ?_
  rw [e]
  cases q with
  | false=>rfl
  | true =>
   rcases Bool.eq_false_or_eq_true (Int.tmod p4 4==0) with e4 | e4
   ·refine wr (wO rfl (wO e4 (wr (xu _ _ _) (wr (xu _ _ _) (wr (xu _ _ _) (wr (xu _ _ _) (wr (gO _ _ _ _ _ _) rfl))))))) rfl
   ·refine (wr (wO rfl (wA e4 (wr (xu _ _ _) (wr (xu _ _ _) (wr (xu _ _ _) (wr (gO _ _ _ _ _ _) rfl)))))) rfl).trans ?_
    rw [e4]; rfl
 ·refine wA e ?_
  rw [e]
  rcases Bool.eq_false_or_eq_true (p0==2) with e' | e'
  ·refine wO e' ?_
   rw [e']
   cases q with
   | false=>rfl
   | true=>exact wr (wO rfl (wr rfl (wr (Vg _) (wr (xu _ _ _) (wr (MA _ _ _) rfl))))) rfl
  ·refine wA e' ?_
   rw [e']; rfl
def W5 (p0 p1 p2 p3 p4 p5 p6 p7 p8 p9:Int):Prop:=p0=1/\0<=p1/\p1<=3/\(p2=1\/p2=2)/\(p3=4\/p3=8)/\(p4=4\/p4=8\/p4=12\/p4=16)/\(p5=0\/p5=1)/\(p6=0\/(p6=1/\p2=2))/\2<=p7/\p7<=250/\p7<=16*p3*p2/\p8=0/\p9=0
def Vc (p0 p1 p2 p3 p4 p5 p6 p7 p8 p9:Int):Prop:=p0=2/\0<=p1/\p1<=3/\(p2=1\/p2=2)/\(p8=40\/p8=60\/p8=80\/p8=120)/\20<=p9/\p9<=120/\p3=0/\p4=0/\p5=0/\p6=0/\p7=0
instance (p0 p1 p2 p3 p4 p5 p6 p7 p8 p9:Int):Decidable (W5 p0 p1 p2 p3 p4 p5 p6 p7 p8 p9):=by unfold W5; infer_instance
instance (p0 p1 p2 p3 p4 p5 p6 p7 p8 p9:Int):Decidable (Vc p0 p1 p2 p3 p4 p5 p6 p7 p8 p9):=by unfold Vc; infer_instance
theorem XC (p0 p1 p2 p3 p4 p5 p6 p7 p8 p9:Int):v9 p0 p1 p2 p3 p4 p5 p6 p7 p8 p9=true↔W5 p0 p1 p2 p3 p4 p5 p6 p7 p8 p9\/Vc p0 p1 p2 p3 p4 p5 p6 p7 p8 p9:=by
 have hk:∀ a b:Int,(a=4\/a=8)->(b=1\/b=2)->wa .i64 (wa .i64 (16*a)*b)=16*a*b/\wa .i64 (b-1)=b-1:=by
  rintro a b (rfl | rfl) (rfl | rfl)<;>exact ⟨rfl,rfl⟩
 unfold v9
 rcases Bool.eq_false_or_eq_true (p0==1) with e | e
 ·rw [e,cond_true]
  have e1:p0=1:=by simpa using e
  simp only [w,Bool.and_eq_true,Bool.or_eq_true,decide_eq_true_eq,Bool.cond_true_left,Bool.cond_false_right,beq_iff_eq]
  constructor
  ·rintro ⟨⟨⟨a1,a2⟩,a3,a4⟩,b1,b2,⟨c1,c2⟩,⟨d1,d2⟩,⟨f1,f2⟩,g⟩
   left
   have h2:p2=1\/p2=2:=by omega
   have h3:p3=4\/p3=8:=b1
   obtain ⟨k1,k2⟩:=hk p3 p2 h3 h2
   rw [k1] at f2; rw [k2] at d2
   have b2':=b2
   have g':=g
   have f2':p7<=16*p3*p2/\p7<=250:=by unfold imin at f2; split at f2<;>omega
   have h4:p4%4=0:=by have:=b2'.1; rw [Int.tmod_eq_emod_of_nonneg (by omega)] at this; exact this
   refine ⟨e1,a1,a2,h2,h3,by omega,by omega,by omega,f1,f2'.2,f2'.1,g'⟩
  ·rintro (⟨_,a1,a2,h2,h3,h4,h5,h6,f1,f2,f3,g1,g2⟩ | ⟨h,_⟩)
   ·obtain ⟨k1,k2⟩:=hk p3 p2 h3 h2
    have f4:p7<=imin (wa .i64 (wa .i64 (16*p3)*p2)) 250:=by rw [k1]; unfold imin; split<;>omega
    have d4:p6<=wa .i64 (p2-1):=by rw [k2]; omega
    refine ⟨⟨⟨a1,a2⟩,by omega,by omega⟩,h3,⟨?_,by omega,by omega⟩,⟨by omega,by omega⟩,⟨by omega,d4⟩,⟨f1,f4⟩,g1,g2⟩
    rcases h4 with rfl | rfl | rfl | rfl<;>rfl
   ·omega
 ·rw [e]
  have e1:p0≠1:=by simpa using e
  simp only [cond_false]
  rcases Bool.eq_false_or_eq_true (p0==2) with e' | e'
  ·rw [e',cond_true]
   have e2:p0=2:=by simpa using e'
   simp only [w,may,Bool.and_eq_true,Bool.or_eq_true,decide_eq_true_eq,beq_iff_eq,Bool.cond_false_right]
   constructor
   ·rintro ⟨⟨⟨a1,a2⟩,a3,a4⟩,b1,⟨c1,c2⟩,⟨⟨⟨d3,d4⟩,d5⟩,d6⟩,d7⟩
    right
    exact ⟨e2,a1,a2,by omega,b1,c1,c2,d3,d4,d5,d6,d7⟩
   ·rintro (⟨h,_⟩ | ⟨_,a1,a2,h2,h8,c1,c2,d3,d4,d5,d6,d7⟩)
    ·omega
    ·exact ⟨⟨⟨a1,a2⟩,by omega,by omega⟩,h8,⟨c1,c2⟩,⟨⟨⟨d3,d4⟩,d5⟩,d6⟩,d7⟩
  ·rw [e']
   have e2:p0≠2:=by simpa using e'
   simp only [cond_false]
   constructor
   ·intro h; cases h
   ·rintro (⟨h,_⟩ | ⟨h,_⟩)<;>omega
theorem prods (p0 p1 p2 p3 p4 p5 p6 p7 p8 p9:Int) (h:W5 p0 p1 p2 p3 p4 p5 p6 p7 p8 p9):0<=p6*p3/\p6*p3<=8/\4<=p3/\p3<=8/\16<=4*p3*p2/\4*p3*p2<=64/\8<=p4*p7/\p4*p7<=4000/\16<=p3*p4/\p3*p4<=128:=by
 obtain ⟨rfl,a1,a2,h2,h3,h4,h5,h6,f1,f2,f3,g1,g2⟩:=h
 rcases h2 with rfl | rfl<;>rcases h3 with rfl | rfl<;>rcases h4 with rfl | rfl | rfl | rfl<;>rcases h6 with rfl | ⟨rfl,_⟩<;>omega
def xH (p2 p3 p4 p6 p7:Int):Int:=32+p6*p3+4*p3*p2+p4*p7
theorem Hl (p0 p1 p2 p3 p4 p5 p6 p7 p8 p9:Int) (h:W5 p0 p1 p2 p3 p4 p5 p6 p7 p8 p9):xZ 5000 p0 p1 p2 p3 p4 p5 p6 p7 p8 p9=some (xH p2 p3 p4 p6 p7):=by
 obtain ⟨q1,q2,q3,q4,q5,q6,q7,q8,_⟩:=prods p0 p1 p2 p3 p4 p5 p6 p7 p8 p9 h
 have e:(p0==2)=false:=by rw [h.1]; rfl
 refine wA e ?_
 unfold xH
 dsimp only
 rw [wX (x:=p6*p3) (by omega) (by omega),wX (x:=4*p3) (by omega) (by omega),wX (x:=4*p3*p2) (by omega) (by omega),wX (x:=p4*p7) (by omega) (by omega),wX (x:=32+p6*p3) (by omega) (by omega),wX (x:=32+p6*p3+4*p3*p2) (by omega) (by omega),wX (by omega) (by omega)]
def vn (p2 p3 p4 p6 p7:Int):Int:=(xH p2 p3 p4 p6 p7+7)/8
theorem WO (p0 p1 p2 p3 p4 p5 p6 p7 p8 p9:Int) (h:W5 p0 p1 p2 p3 p4 p5 p6 p7 p8 p9):56<=xH p2 p3 p4 p6 p7/\xH p2 p3 p4 p6 p7<=4104:=by
 obtain ⟨q1,q2,q3,q4,q5,q6,q7,q8,_⟩:=prods p0 p1 p2 p3 p4 p5 p6 p7 p8 p9 h
 unfold xH; omega
theorem gV (p0 p1 p2 p3 p4 p5 p6 p7 p8 p9:Int) (h:W5 p0 p1 p2 p3 p4 p5 p6 p7 p8 p9):kK 5000 p0 p1 p2 p3 p4 p5 p6 p7 p8 p9=some (vn p2 p3 p4 p6 p7):=by
 have hb:=WO p0 p1 p2 p3 p4 p5 p6 p7 p8 p9 h
 have e:(p0==2)=false:=by rw [h.1]; rfl
 refine wA e (wr (Hl p0 p1 p2 p3 p4 p5 p6 p7 p8 p9 h) ?_)
 unfold vn
 dsimp only
 rw [wX (x:=xH p2 p3 p4 p6 p7+7) (by omega) (by omega),Int.tdiv_eq_ediv_of_nonneg (by omega),wX (by omega) (by omega)]
def okP (p0 p1 p2 p3 p4 p5 p6 p7 p8 p9:Int):Prop:=(W5 p0 p1 p2 p3 p4 p5 p6 p7 p8 p9/\xH p2 p3 p4 p6 p7<=4096)\/Vc p0 p1 p2 p3 p4 p5 p6 p7 p8 p9
instance (p0 p1 p2 p3 p4 p5 p6 p7 p8 p9:Int):Decidable (okP p0 p1 p2 p3 p4 p5 p6 p7 p8 p9):=by unfold okP; infer_instance
theorem uN (p0 p1 p2 p3 p4 p5 p6 p7 p8 p9:Int) (h:Vc p0 p1 p2 p3 p4 p5 p6 p7 p8 p9):kK 5000 p0 p1 p2 p3 p4 p5 p6 p7 p8 p9=some (p9*p2):=by
 obtain ⟨rfl,a1,a2,h2,h8,c1,c2,rest⟩:=h
 refine wO rfl ?_
 rw [wX (by rcases h2 with rfl | rfl<;>omega) (by rcases h2 with rfl | rfl<;>omega)]
theorem KJ (p0 p1 p2 p3 p4 p5 p6 p7 p8 p9:Int):kJ 5000 p0 p1 p2 p3 p4 p5 p6 p7 p8 p9=some (if okP p0 p1 p2 p3 p4 p5 p6 p7 p8 p9 then 0 else 110):=by
 have hf:=XC p0 p1 p2 p3 p4 p5 p6 p7 p8 p9
 by_cases hs:W5 p0 p1 p2 p3 p4 p5 p6 p7 p8 p9
 ·have hb:=WO p0 p1 p2 p3 p4 p5 p6 p7 p8 p9 hs
  refine wr (wr ((Z5 p0 p1 p2 p3 p4 p5 p6 p7 p8 p9).trans (by rw [hf.2 (.inl hs)])) (wA rfl (wr (gV p0 p1 p2 p3 p4 p5 p6 p7 p8 p9 hs) rfl))) ?_
  by_cases ho:okP p0 p1 p2 p3 p4 p5 p6 p7 p8 p9
  ·rw [if_pos ho]
   refine wA (decide_eq_false ?_) rfl
   rcases ho with ⟨_,ho⟩ | ho
   ·unfold vn; omega
   ·have:=hs.1; have:=ho.1; omega
  ·rw [if_neg ho]
   refine wO (decide_eq_true ?_) rfl
   have:¬ xH p2 p3 p4 p6 p7<=4096:=fun q=>ho (.inl ⟨hs,q⟩)
   unfold vn; omega
 ·by_cases hl:Vc p0 p1 p2 p3 p4 p5 p6 p7 p8 p9
  ·rw [if_pos (show okP p0 p1 p2 p3 p4 p5 p6 p7 p8 p9 from .inr hl)]
   refine wr (wr ((Z5 p0 p1 p2 p3 p4 p5 p6 p7 p8 p9).trans (by rw [hf.2 (.inr hl)])) (wA rfl (wr (uN p0 p1 p2 p3 p4 p5 p6 p7 p8 p9 hl) rfl))) ?_
   obtain ⟨_,a1,a2,h2,h8,c1,c2,_⟩:=hl
   refine wA (decide_eq_false ?_) rfl
   rcases h2 with rfl | rfl<;>omega
  ·have:v9 p0 p1 p2 p3 p4 p5 p6 p7 p8 p9=false:=by
    rcases Bool.eq_false_or_eq_true (v9 p0 p1 p2 p3 p4 p5 p6 p7 p8 p9) with e | e
    ·rcases hf.1 e with h | h
     ·exact absurd h hs
     ·exact absurd h hl
    ·exact e
   rw [if_neg (show ¬ okP p0 p1 p2 p3 p4 p5 p6 p7 p8 p9 from fun h=>h.elim (fun q=>hs q.1) hl)]
   exact wr (wr ((Z5 p0 p1 p2 p3 p4 p5 p6 p7 p8 p9).trans (by rw [this])) (wO rfl rfl)) rfl
def yd (p0 p1 p2 p3 p4 p5 p6 p7 p8 p9:Int):Prop:=W5 p0 p1 p2 p3 p4 p5 p6 p7 p8 p9/\xH p2 p3 p4 p6 p7<=4096
instance (p0 p1 p2 p3 p4 p5 p6 p7 p8 p9:Int):Decidable (yd p0 p1 p2 p3 p4 p5 p6 p7 p8 p9):=by unfold yd; infer_instance
theorem Z0 (p0 p1 p2 p3 p4 p5 p6 p7 p8 p9:Int):kB 5000 p0 p1 p2 p3 p4 p5 p6 p7 p8 p9=some (if yd p0 p1 p2 p3 p4 p5 p6 p7 p8 p9 then 0 else 110):=by
 refine wr (KJ p0 p1 p2 p3 p4 p5 p6 p7 p8 p9) ?_
 by_cases h:yd p0 p1 p2 p3 p4 p5 p6 p7 p8 p9
 ·have e1:p0=1:=h.1.1
  rw [if_pos h,if_pos (show okP p0 p1 p2 p3 p4 p5 p6 p7 p8 p9 from .inl h),e1]; rfl
 ·rw [if_neg h]
  by_cases ho:okP p0 p1 p2 p3 p4 p5 p6 p7 p8 p9
  ·rw [if_pos ho]
   rcases ho with ho | ho
   ·exact absurd ho h
   ·have:p0=2:=ho.1
    rw [this]; rfl
  ·rw [if_neg ho]; rfl
theorem MO (p0 p1 p2 p3 p4 p5 p6 p7 p8 p9:Int) (h:yd p0 p1 p2 p3 p4 p5 p6 p7 p8 p9):jd 5000 p0 p1 p2 p3 p4 p5 p6 p7 p8 p9=some (vn p2 p3 p4 p6 p7) :=
 wr (wr ((KJ p0 p1 p2 p3 p4 p5 p6 p7 p8 p9).trans (by rw [if_pos (show okP p0 p1 p2 p3 p4 p5 p6 p7 p8 p9 from .inl h)])) (wA rfl (wr (gV p0 p1 p2 p3 p4 p5 p6 p7 p8 p9 h.1) rfl))) rfl
end Go.Fo
