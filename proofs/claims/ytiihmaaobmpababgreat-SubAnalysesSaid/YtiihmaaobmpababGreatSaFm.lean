/- The formats of Sub: what may be. -/
import Derived.Test.YtiihmaaobmpababGreatSaF
import Derived.Test.YtiihmaaobmpababGreatJ3
namespace Go.Fo
def w (a b c:Int):Bool:=decide (b<=a)&&decide (a<=c)
theorem xc (a b c:Int):za 5000 a b c=some (w a b c):=by
 unfold w; simp only [za]; by_cases h:b<=a<;>simp [h]
theorem G6:∀ a b:Bool,kr 5000 [a,b]=some (a&&b):=by intro a b; cases a<;>cases b<;>rfl
theorem gb:∀ a b c:Bool,kr 5000 [a,b,c]=some (a&&(b&&c)):=by intro a b c; cases a<;>cases b<;>cases c<;>rfl
theorem uL:∀ a b c d e f:Bool,kr 5000 [a,b,c,d,e,f]=some (a&&(b&&(c&&(d&&(e&&f))))):=by intro a b c d e f; cases a<;>cases b<;>cases c<;>cases d<;>cases e<;>cases f<;>rfl
def may (n:Int):Bool:=(n==40)||((n==60)||((n==80)||(n==120)))
theorem vZ (l:List Int) (n c:Int) (m:Nat) (i:Int) (h0:0<=i) (h1:i<c) (h2:c=(l.length:Int)) (h3:c<=1000) (hn:(n==Kd.nth (.int .i64) l (Int.toNat i))=false):wS.l0 5000 l n c (m+1) i=wS.l0 5000 l n c m (i+1):=by
 show wS.r0 5000 l n c (wS.l0 5000 l n c m) i=_
 refine wQ (decide_eq_true h1) (qi ⟨h0,by omega⟩ (wM hn ?_))
 rw [qA (by omega) (by omega)]
theorem X9 (n:Int):z5 5000 [40,60,80,120] n=some (may n):=by
 by_cases h1:n=40
 ·subst h1; rfl
 by_cases h2:n=60
 ·subst h2; rfl
 by_cases h3:n=80
 ·subst h3; rfl
 by_cases h4:n=120
 ·subst h4; rfl
 have e1:(n==40)=false:=by simpa using h1
 have e2:(n==60)=false:=by simpa using h2
 have e3:(n==80)=false:=by simpa using h3
 have e4:(n==120)=false:=by simpa using h4
 have hm:may n=false:=by unfold may; rw [e1,e2,e3,e4]; rfl
 rw [hm]
 refine wJ (x:=-1) (wJ (x:=.inl ()) ?_ rfl) rfl
 show wS.l0 5000 [40,60,80,120] n 4 (4999+1) 0=_
 rw [vZ [40,60,80,120] n 4 4999 0 (by decide) (by decide) rfl (by decide) e1]
 show wS.l0 5000 [40,60,80,120] n 4 (4998+1) 1=_
 rw [vZ [40,60,80,120] n 4 4998 1 (by decide) (by decide) rfl (by decide) e2]
 show wS.l0 5000 [40,60,80,120] n 4 (4997+1) 2=_
 rw [vZ [40,60,80,120] n 4 4997 2 (by decide) (by decide) rfl (by decide) e3]
 show wS.l0 5000 [40,60,80,120] n 4 (4996+1) 3=_
 rw [vZ [40,60,80,120] n 4 4996 3 (by decide) (by decide) rfl (by decide) e4]
 rfl
def vC (p0 p1 p2 p3 p4 p5 p6 p7 p8 p9:Int):Bool :=
  bif p0==1 then (w p1 0 3&&w p2 1 2)&&((bif p3==4 then true else p3==8)&&((bif Int.tmod p4 4==0 then w p4 4 16 else false)&&(w p5 0 1&&(w p6 0 (wb .i64 (p2-1))&&(w p7 2 (imin (wb .i64 (wb .i64 (16*p3)*p2)) 250)&&(bif p8==0 then p9==0 else false))))))
  else bif p0==2 then (w p1 0 3&&w p2 1 2)&&(may p8&&(w p9 20 120&&(bif (bif (bif (bif p3==0 then p4==0 else false) then p5==0 else false) then p6==0 else false) then p7==0 else false)))
  else false
theorem ZC (p0 p1 p2 p3 p4 p5 p6 p7 p8 p9:Int):jt 5000 p0 p1 p2 p3 p4 p5 p6 p7 p8 p9=some (vC p0 p1 p2 p3 p4 p5 p6 p7 p8 p9):=by
 refine wJ (xc p1 0 3) (wJ (xc p2 1 2) (wJ (G6 _ _) ?_))
 unfold vC
 generalize (w p1 0 3&&w p2 1 2)=q
 rcases Bool.eq_false_or_eq_true (p0==1) with e | e
 ·refine wQ e ?_
  rw [e]
  cases q with
  | false=>rfl
  | true =>
   rcases Bool.eq_false_or_eq_true (Int.tmod p4 4==0) with e4 | e4
   ·refine wJ (wQ rfl (wQ e4 (wJ (xc _ _ _) (wJ (xc _ _ _) (wJ (xc _ _ _) (wJ (xc _ _ _) (wJ (uL _ _ _ _ _ _) rfl))))))) rfl
   ·refine (wJ (wQ rfl (wM e4 (wJ (xc _ _ _) (wJ (xc _ _ _) (wJ (xc _ _ _) (wJ (uL _ _ _ _ _ _) rfl)))))) rfl).trans ?_
    rw [e4]; rfl
 ·refine wM e ?_
  rw [e]
  rcases Bool.eq_false_or_eq_true (p0==2) with e' | e'
  ·refine wQ e' ?_
   rw [e']
   cases q with
   | false=>rfl
   | true=>exact wJ (wQ rfl (wJ rfl (wJ (X9 _) (wJ (xc _ _ _) (wJ (gb _ _ _) rfl))))) rfl
  ·refine wM e' ?_
   rw [e']; rfl
def WO (p0 p1 p2 p3 p4 p5 p6 p7 p8 p9:Int):Prop:=p0=1/\0<=p1/\p1<=3/\(p2=1\/p2=2)/\(p3=4\/p3=8)/\(p4=4\/p4=8\/p4=12\/p4=16)/\(p5=0\/p5=1)/\(p6=0\/(p6=1/\p2=2))/\2<=p7/\p7<=250/\p7<=16*p3*p2/\p8=0/\p9=0
def Yu (p0 p1 p2 p3 p4 p5 p6 p7 p8 p9:Int):Prop:=p0=2/\0<=p1/\p1<=3/\(p2=1\/p2=2)/\(p8=40\/p8=60\/p8=80\/p8=120)/\20<=p9/\p9<=120/\p3=0/\p4=0/\p5=0/\p6=0/\p7=0
instance (p0 p1 p2 p3 p4 p5 p6 p7 p8 p9:Int):Decidable (WO p0 p1 p2 p3 p4 p5 p6 p7 p8 p9):=by unfold WO; infer_instance
instance (p0 p1 p2 p3 p4 p5 p6 p7 p8 p9:Int):Decidable (Yu p0 p1 p2 p3 p4 p5 p6 p7 p8 p9):=by unfold Yu; infer_instance
theorem Jx (p0 p1 p2 p3 p4 p5 p6 p7 p8 p9:Int):vC p0 p1 p2 p3 p4 p5 p6 p7 p8 p9=true↔WO p0 p1 p2 p3 p4 p5 p6 p7 p8 p9\/Yu p0 p1 p2 p3 p4 p5 p6 p7 p8 p9:=by
 have hk:∀ a b:Int,(a=4\/a=8)->(b=1\/b=2)->wb .i64 (wb .i64 (16*a)*b)=16*a*b/\wb .i64 (b-1)=b-1:=by
  rintro a b (rfl | rfl) (rfl | rfl)<;>exact ⟨rfl,rfl⟩
 unfold vC
 rcases Bool.eq_false_or_eq_true (p0==1) with e | e
 ·rw [e,cond_true]
  have e1:p0=1:=by simpa using e
  simp only [w,Bool.and_eq_true,Bool.or_eq_true,decide_eq_true_eq,Bool.cond_true_left,Bool.cond_false_right,beq_iff_eq]
  constructor
  ·rintro ⟨⟨⟨a1,a2⟩,a3,a4⟩,b1,b2,⟨c1,c2⟩,⟨d1,d2⟩,⟨f1,f2⟩,g⟩
   left
   have h2:p2=1\/p2=2:=by omega
   have h3:p3=4\/p3=8:=b1
   obtain ⟨k1,k2⟩:=hk p3 p2 h3 h2
   rw [k1] at f2; rw [k2] at d2
   have b2':=b2
   have g':=g
   have f2':p7<=16*p3*p2/\p7<=250:=by unfold imin at f2; split at f2<;>omega
   have h4:p4%4=0:=by have:=b2'.1; rw [Int.tmod_eq_emod_of_nonneg (by omega)] at this; exact this
   refine ⟨e1,a1,a2,h2,h3,by omega,by omega,by omega,f1,f2'.2,f2'.1,g'⟩
  ·rintro (⟨_,a1,a2,h2,h3,h4,h5,h6,f1,f2,f3,g1,g2⟩ | ⟨h,_⟩)
   ·obtain ⟨k1,k2⟩:=hk p3 p2 h3 h2
    have f4:p7<=imin (wb .i64 (wb .i64 (16*p3)*p2)) 250:=by rw [k1]; unfold imin; split<;>omega
    have d4:p6<=wb .i64 (p2-1):=by rw [k2]; omega
    refine ⟨⟨⟨a1,a2⟩,by omega,by omega⟩,h3,⟨?_,by omega,by omega⟩,⟨by omega,by omega⟩,⟨by omega,d4⟩,⟨f1,f4⟩,g1,g2⟩
    rcases h4 with rfl | rfl | rfl | rfl<;>rfl
   ·omega
 ·rw [e]
  have e1:p0≠1:=by simpa using e
  simp only [cond_false]
  rcases Bool.eq_false_or_eq_true (p0==2) with e' | e'
  ·rw [e',cond_true]
   have e2:p0=2:=by simpa using e'
   simp only [w,may,Bool.and_eq_true,Bool.or_eq_true,decide_eq_true_eq,beq_iff_eq,Bool.cond_false_right]
   constructor
   ·rintro ⟨⟨⟨a1,a2⟩,a3,a4⟩,b1,⟨c1,c2⟩,⟨⟨⟨d3,d4⟩,d5⟩,d6⟩,d7⟩
    right
    exact ⟨e2,a1,a2,by omega,b1,c1,c2,d3,d4,d5,d6,d7⟩
   ·rintro (⟨h,_⟩ | ⟨_,a1,a2,h2,h8,c1,c2,d3,d4,d5,d6,d7⟩)
    ·omega
    ·exact ⟨⟨⟨a1,a2⟩,by omega,by omega⟩,h8,⟨c1,c2⟩,⟨⟨⟨d3,d4⟩,d5⟩,d6⟩,d7⟩
  ·rw [e']
   have e2:p0≠2:=by simpa using e'
   simp only [cond_false]
   constructor
   ·intro h; cases h
   ·rintro (⟨h,_⟩ | ⟨h,_⟩)<;>omega
theorem prods (p0 p1 p2 p3 p4 p5 p6 p7 p8 p9:Int) (h:WO p0 p1 p2 p3 p4 p5 p6 p7 p8 p9):0<=p6*p3/\p6*p3<=8/\4<=p3/\p3<=8/\16<=4*p3*p2/\4*p3*p2<=64/\8<=p4*p7/\p4*p7<=4000/\16<=p3*p4/\p3*p4<=128:=by
 obtain ⟨rfl,a1,a2,h2,h3,h4,h5,h6,f1,f2,f3,g1,g2⟩:=h
 rcases h2 with rfl | rfl<;>rcases h3 with rfl | rfl<;>rcases h4 with rfl | rfl | rfl | rfl<;>rcases h6 with rfl | ⟨rfl,_⟩<;>omega
def ym (p2 p3 p4 p6 p7:Int):Int:=32+p6*p3+4*p3*p2+p4*p7
theorem GT (p0 p1 p2 p3 p4 p5 p6 p7 p8 p9:Int) (h:WO p0 p1 p2 p3 p4 p5 p6 p7 p8 p9):xL 5000 p0 p1 p2 p3 p4 p5 p6 p7 p8 p9=some (ym p2 p3 p4 p6 p7):=by
 obtain ⟨q1,q2,q3,q4,q5,q6,q7,q8,_⟩:=prods p0 p1 p2 p3 p4 p5 p6 p7 p8 p9 h
 have e:(p0==2)=false:=by rw [h.1]; rfl
 refine wM e ?_
 unfold ym
 dsimp only
 rw [qA (x:=p6*p3) (by omega) (by omega),qA (x:=4*p3) (by omega) (by omega),qA (x:=4*p3*p2) (by omega) (by omega),qA (x:=p4*p7) (by omega) (by omega),qA (x:=32+p6*p3) (by omega) (by omega),qA (x:=32+p6*p3+4*p3*p2) (by omega) (by omega),qA (by omega) (by omega)]
def Uk (p2 p3 p4 p6 p7:Int):Int:=(ym p2 p3 p4 p6 p7+7)/8
theorem Kl (p0 p1 p2 p3 p4 p5 p6 p7 p8 p9:Int) (h:WO p0 p1 p2 p3 p4 p5 p6 p7 p8 p9):56<=ym p2 p3 p4 p6 p7/\ym p2 p3 p4 p6 p7<=4104:=by
 obtain ⟨q1,q2,q3,q4,q5,q6,q7,q8,_⟩:=prods p0 p1 p2 p3 p4 p5 p6 p7 p8 p9 h
 unfold ym; omega
theorem gx (p0 p1 p2 p3 p4 p5 p6 p7 p8 p9:Int) (h:WO p0 p1 p2 p3 p4 p5 p6 p7 p8 p9):kA 5000 p0 p1 p2 p3 p4 p5 p6 p7 p8 p9=some (Uk p2 p3 p4 p6 p7):=by
 have hb:=Kl p0 p1 p2 p3 p4 p5 p6 p7 p8 p9 h
 have e:(p0==2)=false:=by rw [h.1]; rfl
 refine wM e (wJ (GT p0 p1 p2 p3 p4 p5 p6 p7 p8 p9 h) ?_)
 unfold Uk
 dsimp only
 rw [qA (x:=ym p2 p3 p4 p6 p7+7) (by omega) (by omega),Int.tdiv_eq_ediv_of_nonneg (by omega),qA (by omega) (by omega)]
def okP (p0 p1 p2 p3 p4 p5 p6 p7 p8 p9:Int):Prop:=(WO p0 p1 p2 p3 p4 p5 p6 p7 p8 p9/\ym p2 p3 p4 p6 p7<=4096)\/Yu p0 p1 p2 p3 p4 p5 p6 p7 p8 p9
instance (p0 p1 p2 p3 p4 p5 p6 p7 p8 p9:Int):Decidable (okP p0 p1 p2 p3 p4 p5 p6 p7 p8 p9):=by unfold okP; infer_instance
theorem Yv (p0 p1 p2 p3 p4 p5 p6 p7 p8 p9:Int) (h:Yu p0 p1 p2 p3 p4 p5 p6 p7 p8 p9):kA 5000 p0 p1 p2 p3 p4 p5 p6 p7 p8 p9=some (p9*p2):=by
 obtain ⟨rfl,a1,a2,h2,h8,c1,c2,rest⟩:=h
 refine wQ rfl ?_
 rw [qA (by rcases h2 with rfl | rfl<;>omega) (by rcases h2 with rfl | rfl<;>omega)]
theorem XG (p0 p1 p2 p3 p4 p5 p6 p7 p8 p9:Int):kz 5000 p0 p1 p2 p3 p4 p5 p6 p7 p8 p9=some (if okP p0 p1 p2 p3 p4 p5 p6 p7 p8 p9 then 0 else 110):=by
 have hf:=Jx p0 p1 p2 p3 p4 p5 p6 p7 p8 p9
 by_cases hs:WO p0 p1 p2 p3 p4 p5 p6 p7 p8 p9
 ·have hb:=Kl p0 p1 p2 p3 p4 p5 p6 p7 p8 p9 hs
  refine wJ (wJ ((ZC p0 p1 p2 p3 p4 p5 p6 p7 p8 p9).trans (by rw [hf.2 (.inl hs)])) (wM rfl (wJ (gx p0 p1 p2 p3 p4 p5 p6 p7 p8 p9 hs) rfl))) ?_
  by_cases ho:okP p0 p1 p2 p3 p4 p5 p6 p7 p8 p9
  ·rw [if_pos ho]
   refine wM (decide_eq_false ?_) rfl
   rcases ho with ⟨_,ho⟩ | ho
   ·unfold Uk; omega
   ·have:=hs.1; have:=ho.1; omega
  ·rw [if_neg ho]
   refine wQ (decide_eq_true ?_) rfl
   have:¬ ym p2 p3 p4 p6 p7<=4096:=fun q=>ho (.inl ⟨hs,q⟩)
   unfold Uk; omega
 ·by_cases hl:Yu p0 p1 p2 p3 p4 p5 p6 p7 p8 p9
  ·rw [if_pos (show okP p0 p1 p2 p3 p4 p5 p6 p7 p8 p9 from .inr hl)]
   refine wJ (wJ ((ZC p0 p1 p2 p3 p4 p5 p6 p7 p8 p9).trans (by rw [hf.2 (.inr hl)])) (wM rfl (wJ (Yv p0 p1 p2 p3 p4 p5 p6 p7 p8 p9 hl) rfl))) ?_
   obtain ⟨_,a1,a2,h2,h8,c1,c2,_⟩:=hl
   refine wM (decide_eq_false ?_) rfl
   rcases h2 with rfl | rfl<;>omega
  ·have:vC p0 p1 p2 p3 p4 p5 p6 p7 p8 p9=false:=by
    rcases Bool.eq_false_or_eq_true (vC p0 p1 p2 p3 p4 p5 p6 p7 p8 p9) with e | e
    ·rcases hf.1 e with h | h
     ·exact absurd h hs
     ·exact absurd h hl
    ·exact e
   rw [if_neg (show ¬ okP p0 p1 p2 p3 p4 p5 p6 p7 p8 p9 from fun h=>h.elim (fun q=>hs q.1) hl)]
   exact wJ (wJ ((ZC p0 p1 p2 p3 p4 p5 p6 p7 p8 p9).trans (by rw [this])) (wQ rfl rfl)) rfl
def yf (p0 p1 p2 p3 p4 p5 p6 p7 p8 p9:Int):Prop:=WO p0 p1 p2 p3 p4 p5 p6 p7 p8 p9/\ym p2 p3 p4 p6 p7<=4096
instance (p0 p1 p2 p3 p4 p5 p6 p7 p8 p9:Int):Decidable (yf p0 p1 p2 p3 p4 p5 p6 p7 p8 p9):=by unfold yf; infer_instance
theorem Wu (p0 p1 p2 p3 p4 p5 p6 p7 p8 p9:Int):qG 5000 p0 p1 p2 p3 p4 p5 p6 p7 p8 p9=some (if yf p0 p1 p2 p3 p4 p5 p6 p7 p8 p9 then 0 else 110):=by
 refine wJ (XG p0 p1 p2 p3 p4 p5 p6 p7 p8 p9) ?_
 by_cases h:yf p0 p1 p2 p3 p4 p5 p6 p7 p8 p9
 ·have e1:p0=1:=h.1.1
  rw [if_pos h,if_pos (show okP p0 p1 p2 p3 p4 p5 p6 p7 p8 p9 from .inl h),e1]; rfl
 ·rw [if_neg h]
  by_cases ho:okP p0 p1 p2 p3 p4 p5 p6 p7 p8 p9
  ·rw [if_pos ho]
   rcases ho with ho | ho
   ·exact absurd ho h
   ·have:p0=2:=ho.1
    rw [this]; rfl
  ·rw [if_neg ho]; rfl
end Go.Fo
