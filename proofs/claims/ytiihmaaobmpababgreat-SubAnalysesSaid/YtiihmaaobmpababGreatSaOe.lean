/- Planes of parameters. -/
import Derived.Test.YtiihmaaobmpababGreatSaOc
namespace Go.Fo
set_option maxRecDepth 6000
def xU (M i B b:Int) (X:List (List Int)):Prop:=(X.length:Int)=M/\∀ q,0<=q->q<M->((row X q).length:Int)=if q<i then B else if q=i then b else 0
theorem yQ {X:List (List Int)} {i q:Int} {r:List Int} (hi:0<=i) (hX:i<(X.length:Int)) (hq:0<=q):row (X.set i.toNat r) q=if q=i then r else row X q:=by
 show (X.set i.toNat r).getD q.toNat []=if q=i then r else X.getD q.toNat []
 rw [List.getD_eq_getElem?_getD,List.getD_eq_getElem?_getD]
 by_cases e:q=i
 ·rw [if_pos e,e,List.getElem?_set_self (by omega)]; rfl
 ·rw [if_neg e,List.getElem?_set_ne (by omega)]
theorem yN {X:List (List (List Int))} {i q:Int} {r:List (List Int)} (hi:0<=i) (hX:i<(X.length:Int)) (hq:0<=q):blk (X.set i.toNat r) q=if q=i then r else blk X q:=by
 show (X.set i.toNat r).getD q.toNat []=if q=i then r else X.getD q.toNat []
 rw [List.getD_eq_getElem?_getD,List.getD_eq_getElem?_getD]
 by_cases e:q=i
 ·rw [if_pos e,e,List.getElem?_set_self (by omega)]; rfl
 ·rw [if_neg e,List.getElem?_set_ne (by omega)]
theorem Xg {X:List (List Int)} {r:List Int} {q:Int} (hq:0<=q) (hX:q<=(X.length:Int)):row (X++[r]) q=if q=(X.length:Int) then r else row X q:=by
 show (X++[r]).getD q.toNat []=if q=(X.length:Int) then r else X.getD q.toNat []
 rw [List.getD_eq_getElem?_getD,List.getD_eq_getElem?_getD]
 by_cases e:q=(X.length:Int)
 ·rw [if_pos e,List.getElem?_append_right (by omega),show q.toNat-X.length=0 by omega]; rfl
 ·rw [if_neg e,List.getElem?_append_left (by omega)]
theorem xU.app {M i B b:Int} {X:List (List Int)} (h:xU M i B b X) (hi:0<=i) (hM:i<M) (v:Int):xU M i B (b+1) (X.set i.toNat (X.getD i.toNat []++[v])):=by
 obtain ⟨h1,h2⟩:=h
 refine ⟨by rw [List.length_set]; exact h1,fun q q0 q1=>?_⟩
 rw [yQ hi (by omega) q0]
 have hq:=h2 q q0 q1
 by_cases e:q=i
 ·rw [if_pos e]
  rw [if_neg (by omega),if_pos e] at hq ⊢
  rw [List.length_append]
  subst e
  have hq:((X.getD q.toNat []).length:Int)=b:=hq
  show ((((X.getD q.toNat []).length+1:Nat)):Int)=_
  omega
 ·rw [if_neg e]
  rw [if_neg e] at hq ⊢
  exact hq
theorem xU.len {M i B b:Int} {X:List (List Int)} (h:xU M i B b X) (hi:0<=i) (hM:i<M):((X.getD i.toNat []).length:Int)=b:=by
 have:=h.2 i hi hM
 rw [if_neg (by omega),if_pos rfl] at this
 exact this
theorem xU.nxt {M i B:Int} {X:List (List Int)} (h:xU M i B B X):xU M (i+1) B 0 X:=by
 refine ⟨h.1,fun q q0 q1=>?_⟩
 have:=h.2 q q0 q1
 rw [this]
 by_cases e:q<i
 ·rw [if_pos e,if_pos (by omega)]
 ·rw [if_neg e]
  by_cases e2:q=i
  ·rw [if_pos e2,if_pos (by omega)]
  ·rw [if_neg e2,if_neg (by omega)]; split<;>rfl
theorem xU.rep {M B:Int} (h:0<=M):xU M 0 B 0 (List.replicate M.toNat []):=by
 refine ⟨by simp; omega,fun q q0 q1=>?_⟩
 rw [if_neg (by omega)]
 show (((List.replicate M.toNat ([]:List Int)).getD q.toNat []).length:Int)=_
 rw [List.getD_eq_getElem?_getD,List.getElem?_replicate,if_pos (by omega)]
 show ((0:Nat):Int)=_
 split<;>rfl
theorem xU.all {M B b:Int} {X:List (List Int)} (h:xU M M B b X):Sh M B X:=⟨h.1,fun q q0 q1=>by have:=h.2 q q0 q1; rwa [if_pos q1] at this⟩
theorem jF {M B:Int} {P:List (List Int)} (h:Sh M B P) (hM:1<=M) (hM2:M<=100) (hB:1<=B) (hB2:B<=8):Ok (fun r=>r=B) (zU 5000 P):=by
 obtain ⟨h1,h2⟩:=h
 have h0:((Kd.nth (.slice (.int .i32)) P 0).length:Int)=B:=h2 0 (by omega) (by omega)
 refine Ok.gd (fun _=>by omega) (Ok.ite (fun c=>?_) (fun _=>?_))
 ·have c:(bif ((P.length:Int)==0) then true else decide (((Kd.nth (.slice (.int .i32)) P 0).length:Int)>8))=true:=c
  rw [h0,show ((P.length:Int)==0)=false by rw [beq_eq_false_iff_ne]; omega] at c
  have:=dt c
  omega
 ·refine Ok.bind (Q:=fun z=>z=.inl ()) ?_ ?_
  ·unfold zU.l0
   refine w5 (fun i=>0<=i/\i<=(P.length:Int)) (fun i=>((P.length:Int)-i).toNat) _ ?_ 5000 _ ⟨by omega,by omega⟩ (by omega)
   rintro next i ⟨g1,g2⟩ ih
   refine Ok.ite (fun d=>?_) (fun _=>Ok.some rfl)
   have d:=dt d
   have hi:((Kd.nth (.slice (.int .i32)) P (Int.toNat i)).length:Int)=B:=h2 i g1 (by omega)
   refine Ok.gd ⟨g1,d⟩ (Ok.gd (by omega) (Ok.ite (fun c=>?_) (fun _=>?_)))
   ·rw [hi,h0] at c; simp at c
   ·have e:=kw1 (x:=i) (by omega) (by omega)
    exact ih _ ⟨by omega,by omega⟩ (by omega)
  ·rintro _ rfl
   exact Ok.gd (by omega) (Ok.some h0)
theorem YE {M B:Int} {P:List (List Int)} (hP:Sh M B P) (hM:1<=M) (hM2:M<=100) (hB:1<=B) (hB2:B<=8):Ok (fun r=>Sh M B r) (zO 5000 P):=by
 obtain ⟨h1,h2⟩:=hP
 refine Ok.gd ⟨by omega,by omega,by omega⟩ (Ok.bind (Q:=fun r=>Sh M B r) ?_ (fun r hr=>Ok.some hr))
 rw [show Int.toNat (P.length:Int)=M.toNat by omega]
 unfold zO.l0
 refine wA (fun i X=>0<=i/\i<=M/\xU M i B 0 X) (fun i _=>(M-i).toNat) _ ?_ 5000 _ _ ⟨by omega,by omega,xU.rep (by omega)⟩ (by omega)
 rintro next i X ⟨g1,g2,g3⟩ ih
 refine Ok.ite (fun d=>?_) (fun d=>?_)
 ·have d:=dt d
  have hr:=h2 i g1 (by omega)
  have hX:=g3.1
  refine Ok.gd ⟨g1,d⟩ (Ok.bind (Q:=fun r=>r=row P i) (Ok.gd (fun q=>?_) (Ok.gd ?_ (Ok.some rfl))) ?_)
  ·have q:row P i=[]:=q
   rw [q] at hr; simp at hr; omega
  ·show ((0:Int)+((row P i).length:Int))*4<=_
   omega
  rintro _ rfl
  refine Ok.gd ⟨g1,by omega,by omega⟩ ?_
  have e:wb .i64 (i+1)=i+1:=kw1 (by omega) (by omega)
  dsimp only
  rw [e]
  refine ih _ _ ⟨by omega,by omega,by rw [List.length_set]; exact hX,fun q q0 q1=>?_⟩ (by omega)
  rw [yQ g1 (by omega) q0]
  have hq:=g3.2 q q0 q1
  by_cases e2:q=i
  ·rw [if_pos e2,if_pos (by omega)]; exact hr
  ·rw [if_neg e2,hq]
   by_cases e3:q<i
   ·rw [if_pos e3,if_pos (by omega)]
   ·rw [if_neg e3,if_neg e2,if_neg (by omega)]; split<;>rfl
 ·have:i=M:=by have:=df d; omega
  subst this
  exact Ok.some g3.all
theorem Y4 {M B:Int} {X:List (List Int)} (h:Sh M B X) {i b v:Int} (hi:0<=i) (hM:i<M):Sh M B (X.set i.toNat ((X.getD i.toNat []).set b.toNat v)):=by
 refine ⟨by rw [List.length_set]; exact h.1,fun q q0 q1=>?_⟩
 have h1:=h.1
 rw [yQ hi (by omega) q0]
 by_cases e:q=i
 ·rw [if_pos e,List.length_set]; exact h.2 i hi hM
 ·rw [if_neg e]; exact h.2 q q0 q1
theorem VG {M B b:Int} {x y X Y:List (List Int)} (hx:Sh M B x) (hy:Sh M B y) (hX:Sh M B X) (hY:Sh M B Y) (hM2:M<=100) (hM:0<=M) (hb:0<=b) (hb2:b<B):Ok (fun r=>Sh M B r.1/\Sh M B r.2) (wO 5000 b x y X Y):=by
 refine Ok.bind (Q:=fun r=>Sh M B r.1/\Sh M B r.2) ?_ (fun r hr=>Ok.some hr)
 have hx1:=hx.1
 have hy1:=hy.1
 unfold wO.l0
 refine ql (fun i X Y=>0<=i/\i<=M/\Sh M B X/\Sh M B Y) (fun i _ _=>(M-i).toNat) _ ?_ 5000 _ _ _ ⟨by omega,by omega,hX,hY⟩ (by omega)
 rintro next i X Y ⟨g1,g2,g3,g4⟩ ih
 refine Ok.ite (fun d=>?_) (fun _=>Ok.some ⟨g3,g4⟩)
 have d:=dt d
 have a1:=g3.1
 have a2:=g4.1
 have a3:((X.getD i.toNat []).length:Int)=B:=g3.2 i g1 (by omega)
 have a4:((Y.getD i.toNat []).length:Int)=B:=g4.2 i g1 (by omega)
 have a5:((Kd.nth (.slice (.int .i32)) x (Int.toNat i)).length:Int)=B:=hx.2 i g1 (by omega)
 have a6:((Kd.nth (.slice (.int .i32)) y (Int.toNat i)).length:Int)=B:=hy.2 i g1 (by omega)
 refine Ok.gd ⟨g1,by omega⟩ (Ok.gd (by omega) (Ok.gd ⟨g1,by omega⟩ (Ok.gd (by omega) (Ok.gd ⟨g1,by omega⟩ (Ok.gd ⟨hb,by omega⟩ (Ok.gd ⟨g1,by omega⟩ (Ok.gd ⟨hb,by omega⟩ (Ok.gd ⟨hb,by omega⟩ (Ok.gd (by omega) (Ok.gd ⟨hb,by omega⟩ (Ok.gd (by omega) ?_)))))))))))
 have e:wb .i64 (i+1)=i+1:=kw1 (by omega) (by omega)
 dsimp only
 rw [e]
 exact ih _ _ _ ⟨by omega,by omega,Y4 g3 g1 (by omega),Y4 g4 g1 (by omega)⟩ (by omega)
end Go.Fo
