/- Programs that come to a result: what it is like. -/
import Derived.Test.YtllmmohdmmneoaaGreatMaF
import Derived.KernelRfl
namespace Go.Fo
def Ok {α:Type} (P:α->Prop) (o:Option α):Prop:=∃r,o=some r/\P r
theorem Ok.mono {α:Type} {P Q:α->Prop} {o:Option α} (h:Ok P o) (k:∀r,P r->Q r):Ok Q o:=by
 obtain ⟨r,h1,h2⟩:=h;exact ⟨r,h1,k r h2⟩
theorem Ok.some {α:Type} {P:α->Prop} {x:α} (h:P x):Ok P (some x):=⟨x,rfl,h⟩
theorem Ok.ite {α:Type} {P:α->Prop} {b:Bool} {x y:Option α} (h1:b=true->Ok P x) (h2:b=false->Ok P y):Ok P (bif b then x else y):=by
 cases b with
 | true=>exact h1 rfl
 | false=>exact h2 rfl
theorem Ok.gd {α:Type} {P:α->Prop} {C:Prop} {_:Decidable C} {x:Option α} (hc:C) (h:Ok P x):Ok P (gd C x):=by
 rw[VT hc];exact h
theorem Ok.bind {α β:Type} {Q:α->Prop} {P:β->Prop} {o:Option α} {f:α->Option β} (h:Ok Q o) (k:∀r,Q r->Ok P (f r)):Ok P (o.bind f):=by
 obtain ⟨r,rfl,h2⟩:=h;exact k r h2
theorem Ok.is {α:Type} {o:Option α} {r:α} (h:o=Option.some r):Ok (fun x=>x=r) o:=⟨r,h,rfl⟩
theorem dt {p:Prop} {_:Decidable p} (h:decide p=true):p:=of_decide_eq_true h
theorem df {p:Prop} {_:Decidable p} (h:decide p=false):¬p:=of_decide_eq_false h
theorem wT {x:Int} (h0:-9223372036854775808<=x) (h1:x<=9223372036854775807):wb .i64 x=x:=by
 unfold wb IntKind.wrap;simp[IntKind.bits,IntKind.signed];omega
theorem kS {α0 β:Type} {f:(α0->Option β)->α0->Option β} (I:α0->Prop) (m:α0->Nat) (P:β->Prop) (h:∀next x0,I x0->(∀y0,I y0->m y0<m x0->Ok P (next y0))->Ok P (f next x0)):∀n x0,I x0->m x0<n->Ok P (wA f (fun _=>none) n x0)
 | 0,x0,_,hm=>absurd hm (Nat.not_lt_zero _)
 | n+1,x0,hi,hm=>h _ x0 hi fun y0 hy hlt=>kS I m P h n y0 hy (by omega)
theorem qo {α0 α1 β:Type} {f:(α0->α1->Option β)->α0->α1->Option β} (I:α0->α1->Prop) (m:α0->α1->Nat) (P:β->Prop) (h:∀next x0 x1,I x0 x1->(∀y0 y1,I y0 y1->m y0 y1<m x0 x1->Ok P (next y0 y1))->Ok P (f next x0 x1)):∀n x0 x1,I x0 x1->m x0 x1<n->Ok P (wA f (fun _ _=>none) n x0 x1)
 | 0,x0,x1,_,hm=>absurd hm (Nat.not_lt_zero _)
 | n+1,x0,x1,hi,hm=>h _ x0 x1 hi fun y0 y1 hy hlt=>qo I m P h n y0 y1 hy (by omega)
theorem y7 {α0 α1 α2 β:Type} {f:(α0->α1->α2->Option β)->α0->α1->α2->Option β} (I:α0->α1->α2->Prop) (m:α0->α1->α2->Nat) (P:β->Prop) (h:∀next x0 x1 x2,I x0 x1 x2->(∀y0 y1 y2,I y0 y1 y2->m y0 y1 y2<m x0 x1 x2->Ok P (next y0 y1 y2))->Ok P (f next x0 x1 x2)):∀n x0 x1 x2,I x0 x1 x2->m x0 x1 x2<n->Ok P (wA f (fun _ _ _=>none) n x0 x1 x2)
 | 0,x0,x1,x2,_,hm=>absurd hm (Nat.not_lt_zero _)
 | n+1,x0,x1,x2,hi,hm=>h _ x0 x1 x2 hi fun y0 y1 y2 hy hlt=>y7 I m P h n y0 y1 y2 hy (by omega)
theorem vV {α0 α1 α2 α3 β:Type} {f:(α0->α1->α2->α3->Option β)->α0->α1->α2->α3->Option β} (I:α0->α1->α2->α3->Prop) (m:α0->α1->α2->α3->Nat) (P:β->Prop) (h:∀next x0 x1 x2 x3,I x0 x1 x2 x3->(∀y0 y1 y2 y3,I y0 y1 y2 y3->m y0 y1 y2 y3<m x0 x1 x2 x3->Ok P (next y0 y1 y2 y3))->Ok P (f next x0 x1 x2 x3)):∀n x0 x1 x2 x3,I x0 x1 x2 x3->m x0 x1 x2 x3<n->Ok P (wA f (fun _ _ _ _=>none) n x0 x1 x2 x3)
 | 0,x0,x1,x2,x3,_,hm=>absurd hm (Nat.not_lt_zero _)
 | n+1,x0,x1,x2,x3,hi,hm=>h _ x0 x1 x2 x3 hi fun y0 y1 y2 y3 hy hlt=>vV I m P h n y0 y1 y2 y3 hy (by omega)
theorem vT {α0 α1 α2 α3 α4 α5 β:Type} {f:(α0->α1->α2->α3->α4->α5->Option β)->α0->α1->α2->α3->α4->α5->Option β} (I:α0->α1->α2->α3->α4->α5->Prop) (m:α0->α1->α2->α3->α4->α5->Nat) (P:β->Prop) (h:∀next x0 x1 x2 x3 x4 x5,I x0 x1 x2 x3 x4 x5->(∀y0 y1 y2 y3 y4 y5,I y0 y1 y2 y3 y4 y5->m y0 y1 y2 y3 y4 y5<m x0 x1 x2 x3 x4 x5->Ok P (next y0 y1 y2 y3 y4 y5))->Ok P (f next x0 x1 x2 x3 x4 x5)):∀n x0 x1 x2 x3 x4 x5,I x0 x1 x2 x3 x4 x5->m x0 x1 x2 x3 x4 x5<n->Ok P (wA f (fun _ _ _ _ _ _=>none) n x0 x1 x2 x3 x4 x5)
 | 0,x0,x1,x2,x3,x4,x5,_,hm=>absurd hm (Nat.not_lt_zero _)
 | n+1,x0,x1,x2,x3,x4,x5,hi,hm=>h _ x0 x1 x2 x3 x4 x5 hi fun y0 y1 y2 y3 y4 y5 hy hlt=>vT I m P h n y0 y1 y2 y3 y4 y5 hy (by omega)
end Go.Fo
