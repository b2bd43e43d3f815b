/- The engine of this proof, part 4. -/
import Derived.Calls
import Derived.Orders
import Derived.Tactics
import Derived.KernelRfl
import Derived.Laws.BytesString
import Derived.ChangeSame
import Derived.ReadAgain
import Derived.RowKit3
import Derived.WideShapes
import Derived.Laws.StructEq
import Derived.Lib.UnsafeStr
import Derived.Laws.IdiomStrings
import Derived.Test.YtgbfdfkfkfldoaaGreatJ3
namespace Go.Fo
section

def calleeI (A : List (Nat × MV)) (t : TypeId) (name : String) : Op → Option (List MV × Prop)
  | .call { callee:=.invoke r n,args,.. }=>match opg A none r,opgs A none args.toList with
    | some (.ifc t' x,C),some (ys,D)=>if t' == t && n == name then some (x :: ys,C ∧ D) else none
    | _,_=>none
  | _=>none
def methB (P : Program) (t : TypeId) (name : String) (f : FuncId) : Bool :=
  match P.info? t,P.underlying t with
  | some j,some (.pointer _)=>(match j.methods.find? (fun m=>m.name == name) with
    | some m=>m.path.toList.isEmpty && (match m.func with | some (g,b)=>g == f && b | none=>false)
    | none=>false)
  | _,_=>false
theorem meth_run {P : Program} {t : TypeId} {name : String} {f : FuncId} (h : methB P t name f = true) (hn : 0 < P.types.size + Made.depth) (v : Value) (w : World) : (method (P.types.size + Made.depth) t v name).run P w = .ok (f,v) w:=by
 unfold methB at h
 split at h
 ·rename_i j e hj hu
  split at h
  ·rename_i m hm
   simp only [Bool.and_eq_true,List.isEmpty_iff] at h
   obtain ⟨hp,h⟩:=h
   split at h
   ·rename_i g b hf
    simp only [Bool.and_eq_true,beq_iff_eq] at h
    obtain ⟨rfl,rfl⟩:=h
    obtain ⟨n,hn'⟩ : ∃ n,P.types.size + Made.depth = n + 1:=⟨P.types.size + Made.depth - 1,by omega⟩
    rw [hn']
    have hti : ∀ w,(typeInfo t).run P w = .ok j w:=fun w=>by simp [typeInfo,program,Sem.run,hj,pure]
    unfold method
    rw [run_bind',hti]; simp only [hm]
    rw [hp]
    unfold follow
    rw [run_bind',run_pure]; simp only [hf]
    unfold receiverAt
    rw [run_bind',run_bind',run_underlying hu]; simp only
    rfl
   ·cases h
  ·cases h
 ·cases h

theorem calleeI_run {P : Program} {A : List (Nat × MV)} {o : Oper} {t : TypeId} {name : String} {f : FuncId} {xs : List MV} {C : Prop} (h : calleeI A t name o.op = some (xs,C)) (hC : C) (hm : methB P t name f = true) (hn : 0 < P.types.size + Made.depth) (hf : fnb P f = true) {a : Act} {w : World}
  (hA : ∃ ρ m,Slots ρ m A a) : ∃ vs : List Value,(execOp a.eval o).run P w = .ok (.enter f vs.toArray) w ∧ ∀ ρ m,Slots ρ m A a → CvL ρ m xs vs:=by
 obtain ⟨dst,op,ty,pos,after,guard⟩:=o
 simp only at h
 unfold calleeI at h
 split at h
 ·rename_i r n args tys
  split at h
  ·rename_i t' x D ys E h1 h2
   split at h
   ·rename_i hc
    simp only [Bool.and_eq_true,beq_iff_eq] at hc
    obtain ⟨rfl,rfl⟩:=hc
    simp only [Option.some.injEq,Prod.mk.injEq] at h; obtain ⟨rfl,rfl⟩:=h
    obtain ⟨ρ0,m0,hs0⟩:=hA
    obtain ⟨y,hy,_⟩:=opg_ok hs0 (.inl rfl) h1 hC.1
    refine ⟨y :: args.toList.map a.eval,?_,fun ρ m hs=>?_⟩
    ·show (do let d ← resolve a.eval { callee:=.invoke r n,args:=args,argTypes:=tys } ty; invoke d.target d.args : Sem Next).run P w = _
     unfold resolve
     simp only [hy]
     rw [run_bind',run_pure]; simp only
     unfold invoke
     have e0 : (#[Value.iface t' y] ++ args.map a.eval)[0]? = some (Value.iface t' y):=by
      rw [Array.getElem?_append_left (by simp)]; rfl
     simp only [e0]
     unfold callMethod
     simp only
     have e1 : (do let p ← method ((← program).types.size + Made.depth) t' y n; callFunc p.1 (#[p.2] ++ (#[Value.iface t' y] ++ args.map a.eval).extract 1 (#[Value.iface t' y] ++ args.map a.eval).size) : Sem Next).run P w = .ok (.enter f (y :: args.toList.map a.eval).toArray) w:=by
      rw [run_bind',show (program : Sem Program).run P w = .ok P w from rfl]; simp only
      rw [run_bind',meth_run hm hn y w]; simp only
      have he : #[y] ++ (#[Value.iface t' y] ++ args.map a.eval).extract 1 (#[Value.iface t' y] ++ args.map a.eval).size = (y :: args.toList.map a.eval).toArray:=by
       apply Array.ext'
       simp
       exact List.take_of_length_le (by simp)
      rw [he,run_callFunc hf]
     exact e1
    ·obtain ⟨y',hy',hc⟩:=opg_ok hs (.inl rfl) h1 hC.1
     have : y' = y:=by
      rw [hy] at hy'
      simp only [Value.iface.injEq,true_and] at hy'
      exact hy'.symm
     subst this
     exact ⟨_,_,rfl,hc,opgs_ok hs (.inl rfl) h2 hC.2⟩
   ·cases h
  ·cases h
 ·cases h

section
variable {P : Program} {Γ : Gd} {N : Nat} {Q : Exit → Act → World → Prop} {A A' : List (Nat × MV)} {L L' : List (Nat × Option MObj)}
theorem callopI_sat {Af : Nat → Option MV} {Lf : Nat → Option MObj} {o : Oper} {f : FuncId} {xs ys : List MV} {Lc Lc' : List (Nat × Option MObj)} {res : MV} (hF : Fn P f xs Lc res Lc')
  (hrun : ∀ (a : Act) (w : World),(∃ ρ m,Slots ρ m A a) → ∃ vs : List Value,(execOp a.eval o).run P w = .ok (.enter f vs.toArray) w ∧ ∀ ρ m,Slots ρ m A a → CvL ρ m ys vs) (hAf : ∀ s x,get A s = some x → Af s = some x)
  (π : Nat → Nat) (hys : ys = MV.renL π xs) (hL : ∀ k oc,getO Lc k = some oc → Lf (π k) = some (oc.ren π)) (hk1 : ∀ k ∈ keysO Lc,k ∈ keysO Lc') (hinj : ∀ a ∈ keysO Lc',∀ b ∈ keysO Lc',π a = π b → a = b) (htold : toldB (keysO Lc') res Lc')
  (hnew : ∀ k ∈ keysO Lc',1000 ≤ k → 1000 ≤ π k ∧ k ∉ keysO Lc ∧ (∀ s x,Af s = some x → x.has (π k) = false) ∧ (∀ c oc,Lf c = some oc → oc.has (π k) = false ∧ c ≠ π k))
  (hd : ∀ d,o.dst = some d → d < N) {a : Act} {w : World} (hs : Sat Γ N Af Lf a w) : o.wp P a w (fun a' w'=>Sat Γ N (addA o.dst (res.ren π) Af) (updO (renO π Lc') Lf) a' w') Q:=by
 have hs':=hs
 obtain ⟨h1,h2,ρ,m,h3,h4⟩:=hs'
 obtain ⟨vs,hrun,hvs⟩:=hrun a w ⟨ρ,m,fun s x hx=>h3 s x (hAf s x hx)⟩
 unfold Oper.wp
 rw [hrun,Oper.upon_enter]
 refine (call_sat hF π hL hk1 hinj htold hnew hs (vs:=vs) (fun ρ m hh=>hys ▸ hvs ρ m (fun s x hx=>hh s x (hAf s x hx))) (fun v w'=>Sat Γ N (addA o.dst (res.ren π) Af) (updO (renO π Lc') Lf) (a.put o.dst v) w') (fun v w' hw=>hw o.dst hd)).mono ?_
 rintro e w' he
 cases e with
 | returned v=>exact he
 | panicked _=>exact he.elim
 | outgrown=>exact he.elim
theorem TL_callI {ops : Array Oper} {o : Oper} {l : List Oper} {f : FuncId} {xs ys : List MV} {Lc Lc' : List (Nat × Option MObj)} {res : MV} {C : Prop} (t : TypeId) (name : String) (π : List (Nat × Nat)) (hF : Fn P f xs Lc res Lc') (hm : methB P t name f = true) (hf : fnb P f = true) (h : calleeI A t name o.op = some (ys,C)) (hC : C) (hys : ys = MV.renL (sg π) xs)
  (hs : SubL (renO (sg π) Lc) L) (hb : callB (sg π) N o.dst o.guard.isNone A L Lc Lc' res = true) (k : TL P Γ N ops Q l (addL o.dst (res.ren (sg π)) A) (renO (sg π) Lc' ++ L)) : TL P Γ N ops Q (o :: l) A L:=by
 simp only [callB,Bool.and_eq_true,List.all_eq_true,List.contains_iff_mem,Bool.or_eq_true,decide_eq_true_eq,Bool.not_eq_true',Option.isNone_iff_eq_none] at hb
 obtain ⟨⟨⟨⟨⟨b1,b2⟩,b3⟩,b4⟩,b5⟩,b6⟩:=hb
 have hd : ∀ d,o.dst = some d → d < N:=fun d e=>by rw [e] at b2; simpa using b2
 have hinj:=injB_ok b4
 have hnew : ∀ k ∈ keysO Lc',1000 ≤ k → 1000 ≤ sg π k ∧ k ∉ keysO Lc ∧ freshA (sg π k) A = true ∧ freshL (sg π k) L = true:=fun k hk hge=>by
  rcases b6 k hk with b | ⟨⟨⟨c1,c2⟩,c3⟩,c4⟩
  ·omega
  ·exact ⟨c1,fun e=>(by rw [List.contains_iff_mem.2 e] at c2; cases c2),c3,c4⟩
 intro a w hs0
 refine wpList_plain b1 fun K hK=>?_
 refine Oper.wp_mono (fun a1 w1 hs1=>hK a1 w1 (k a1 w1 ?_)) (callopI_sat hF (fun a w hA=>calleeI_run h hC hm (Nat.lt_of_lt_of_le (by decide : 0 < Made.depth) (Nat.le_add_left _ _)) hf hA) (fun _ _ h=>h) (sg π) hys (fun k oc hk=>hs.get _ _ (getO_ren (fun a ha b hb=>hinj a (b3 a ha) b (b3 b hb)) k oc hk)) b3 hinj (tldB_ok b5)
  (fun k hk hge=>by
   obtain ⟨g1,g2,g3,g4⟩:=hnew k hk hge
   exact ⟨g1,g2,freshA_ok g3,freshL_ok g4⟩) hd hs0)
 rw [addL_get,getO_append]
 exact hs1
end
theorem callAI_ok {P : Program} {Γ : Gd} {N : Nat} {Q : Exit → Act → World → Prop} {r : Rg} {vA : List (Nat × MV)} {vL : List (Nat × Option MObj)} {i : Nat} {o : Oper} (ho : r.ops[i]? = some o) {f : FuncId} {xs ys : List MV} {Lc Lc' : List (Nat × Option MObj)} {res : MV} (π : Nat → Nat) (hF : Fn P f xs Lc res Lc')
  (hrun : ∀ (a : Act) (w : World),(∃ ρ m,Slots ρ m vA a) → ∃ vs : List Value,(execOp a.eval o).run P w = .ok (.enter f vs.toArray) w ∧ ∀ ρ m,Slots ρ m vA a → CvL ρ m ys vs) (hg : o.guard = none) (hys : ys = MV.renL π xs) (hd : ∀ d,o.dst = some d → d < N) (hsub : SubL (renO π Lc) vL) (hk1 : ∀ k ∈ keysO Lc,k ∈ keysO Lc') (hinj : ∀ a ∈ keysO Lc',∀ b ∈ keysO Lc',π a = π b → a = b)
  (htold : toldB (keysO Lc') res Lc') (hnew : ∀ k ∈ keysO Lc',1000 ≤ k → 1000 ≤ π k ∧ k ∉ keysO Lc ∧ π k ∈ r.nk i) (hwk : ∀ k ∈ keysO Lc',π k ∈ r.wk i) :
  OpAt P Γ N Q r vA vL (addL o.dst (res.ren π) [],renO π Lc') i ∧ De.ok r i (addL o.dst (res.ren π) [],renO π Lc'):=by
 refine ⟨fun Af Lf a w hA hL hf2 hs K hK=>wpOp_plain ho hg (Oper.wp_mono (fun a1 w1 hs1=>hK a1 w1 ?_) (callopI_sat hF hrun hA π hys (fun k oc hk=>hL _ _ (hsub.get _ _ (getO_ren (fun a ha b hb=>hinj a (hk1 a ha) b (hk1 b hb)) k oc hk))) hk1 hinj htold
  (fun k hk hge=>by
   obtain ⟨g1,g2,g3⟩:=hnew k hk hge
   exact ⟨g1,g2,(hf2 _ g3).1,(hf2 _ g3).2⟩) hd hs)),fun s hs=>?_,fun k hk=>?_⟩
 ·have : addsA (addL o.dst (res.ren π) []) Af = addA o.dst (res.ren π) Af:=by
   cases o.dst with
   | none=>exact addsA_nil Af
   | some d=>exact addsA_one d _ Af
  simp only [this]; exact hs1
 ·rw [dst_of ho]
  cases hd' : o.dst with
  | none=>rw [hd'] at hs; simp [addL,hasK] at hs
  | some d =>
   rw [hd'] at hs
   simp only [addL,hasK,List.any_cons,List.any_nil,Bool.or_false,beq_iff_eq] at hs; rw [hs]
 ·simp only [hasK,renO,List.any_map,List.any_eq_true,Function.comp_apply,beq_iff_eq] at hk
  obtain ⟨q,hq,rfl⟩:=hk
  exact hwk q.1 (by simp only [keysO,List.mem_map]; exact ⟨q,hq,rfl⟩)

theorem callA_okBI {P : Program} {Γ : Gd} {N : Nat} {Q : Exit → Act → World → Prop} {r : Rg} {vA : List (Nat × MV)} {vL : List (Nat × Option MObj)} {i : Nat} {o : Oper} {f : FuncId} {xs ys : List MV} {Lc Lc' : List (Nat × Option MObj)} {res : MV} {C : Prop} (t : TypeId) (name : String) (π : List (Nat × Nat)) (ho : r.ops[i]? = some o) (hF : Fn P f xs Lc res Lc') (hm : methB P t name f = true)
  (h : calleeI vA t name o.op = some (ys,C)) (hC : C) (hf : fnb P f = true) (hys : ys = MV.renL (sg π) xs) (hsub : SubL (renO (sg π) Lc) vL) (hb : callAB (sg π) N o.dst o.guard.isNone (r.wk i) (r.nk i) Lc Lc' res = true) :
  OpAt P Γ N Q r vA vL (addL o.dst (res.ren (sg π)) [],renO (sg π) Lc') i ∧ De.ok r i (addL o.dst (res.ren (sg π)) [],renO (sg π) Lc'):=by
 simp only [callAB,Bool.and_eq_true,List.all_eq_true,List.contains_iff_mem,Bool.or_eq_true,decide_eq_true_eq,Bool.not_eq_true',Option.isNone_iff_eq_none] at hb
 obtain ⟨⟨⟨⟨⟨⟨b1,b2⟩,b3⟩,b4⟩,b5⟩,b6⟩,b7⟩:=hb
 refine callAI_ok ho (sg π) hF (fun a w hA=>calleeI_run h hC hm (Nat.lt_of_lt_of_le (by decide : 0 < Made.depth) (Nat.le_add_left _ _)) hf hA) b1 hys (fun d e=>by rw [e] at b2; simpa using b2) hsub b3 (injB_ok b4) (tldB_ok b5) (fun k hk hge=>?_) b7
 rcases b6 k hk with b | ⟨⟨c1,c2⟩,c3⟩
 ·omega
 ·exact ⟨c1,fun e=>(by rw [List.contains_iff_mem.2 e] at c2; cases c2),c3⟩

section
variable {P : Program} {Γ : Gd} {N : Nat} {Q : Exit → Act → World → Prop} {A : List (Nat × MV)} {L : List (Nat × Option MObj)} {r : Rg} {G : Prop}
theorem AJR_callI {ex : Nat → List Nat} {l : List De} {n : Nat} {o : Oper} {f : FuncId} {xs ys : List MV} {Lc Lc' : List (Nat × Option MObj)} {res : MV} {C : Prop} (t : TypeId) (name : String) (n' : Nat) (hn' : n' = n + 1) (hn : n < r.ops.size) (π : List (Nat × Nat)) (ho : r.ops[n]? = some o) (hF : Fn P f xs Lc res Lc') (hm : methB P t name f = true) (hf : fnb P f = true)
  (h : calleeI (viewA2 r (fnR n l) A n) t name o.op = some (ys,C)) (hC : C) (hys : ys = MV.renL (sg π) xs) (hsub : SubL (renO (sg π) Lc) (viewL2 r ex (fnR n l) L n)) (hb : callAB (sg π) N o.dst o.guard.isNone (r.wk n) (r.nk n) Lc Lc' res = true)
  (k : AJR P Γ N Q r ex A L G n' ((addL o.dst (res.ren (sg π)) [],renO (sg π) Lc') :: l)) : AJR P Γ N Q r ex A L G n l:=by
 subst hn'; exact AJR_step hn (callA_okBI t name π ho hF hm h hC hf hys hsub hb) k

end

theorem Sat.arr {Γ : Gd} {N : Nat} {A : List (Nat × MV)} {L : List (Nat × Option MObj)} {a : Act} {w : World} (hs : Sat Γ N (get A) (getO L) a w) {key n : Nat} {ik : IntKind} {cs : List MV} {xs : List Int} (hk : getO L key = some (.cells cs)) (hx : arrI ik cs = some xs) (hn : xs.length = n) :
  Sat Γ N (get A) (getO ((key,some (.arr (.int ik) n xs)) :: L)) a w:=by
 obtain ⟨h1,h2,ρ,m,h3,h,h5,h6⟩:=hs
 refine ⟨h1,h2,ρ,m,h3,?_,h5,h6⟩
 have t:=h.turn (ρ':=ρ) (w':=w) key (some (.arr (.int ik) n xs)) (fun _=>False) (fun _ _=>rfl) (.inl rfl) (fun _ _ _=>rfl) (Nat.le_refl _) (fun _ _ hf=>hf.elim) (fun _ _ _ _ _ _ hf=>hf) (fun o ho=>by
  simp only [Option.some.injEq] at ho; subst ho
  obtain ⟨g0,vs,T,g1,g2⟩:=h.obj _ _ hk
  have hv : vs = xs.map (Value.int ik):=cv_ints (by rw [← arrI_ok hx]; exact g2)
  refine ⟨⟨g0,hn,vs,T,g1,by rw [hv]; simp [Kd.n,hn],ints_cells hv⟩,fun b hf=>⟨h.djm key _ _ hk hf,h.djX key _ _ hk hf,fun k' o' hne hk' hf'=>hne (h.dj k' o' key _ b hk' hk hf' hf)⟩⟩)
 exact t
section
variable {P : Program} {Γ : Gd} {N : Nat} {Q : Exit → Act → World → Prop} {A : List (Nat × MV)} {L : List (Nat × Option MObj)}
theorem TL_arr {ops : Array Oper} {l : List Oper} (key : Nat) (ik : IntKind) (n : Nat) (xs : List Int) {cs : List MV} (hk : getO L key = some (.cells cs)) (hx : arrI ik cs = some xs) (hn : xs.length = n) (h : TL P Γ N ops Q l A ((key,some (.arr (.int ik) n xs)) :: L)) : TL P Γ N ops Q l A L:=fun a w hs=>h a w (hs.arr hk hx hn)
end

theorem Sat.ownRC {Γ : Gd} {N : Nat} {A : List (Nat × MV)} {L : List (Nat × Option MObj)} {a : Act} {w : World} (hs : Sat Γ N (get A) (getO L) a w) {q j : Nat} {cs : List MV} (hq : getO L q = some (.cells cs)) (hj : cs[j]? = some .nils) (key : Nat) (e : Kd) (hk : 1000 ≤ key) (hfA : freshA key A = true) (hfL : freshL key L = true) :
  Sat Γ N (get A) (getO ((q,some (.cells (cs.set j (.sl key)))) :: (key,some (.rr true e [] none)) :: L)) a w:=by
 obtain ⟨h1,h2,ρ,m,h3,h4,h5,h6⟩:=hs
 have hρ : ∀ q,q ≠ key → setρ ρ key ⟨0,0,0,true,1⟩ q = ρ q:=fun q hq=>setρ_ne _ _ _ hq
 have hqk : q ≠ key:=(freshL_ok hfL q _ hq).2
 have hr : ((setρ ρ key ⟨0,0,0,true,1⟩) key).hdr = .slice none 0 0:=by rw [setρ_eq]; rfl
 have t1:=h4.turnR (ρ':=setρ ρ key ⟨0,0,0,true,1⟩) (w':=w) key (some (.rr true e [] none)) (fun _=>False) hρ (.inr fun q o hq _=>(freshL_ok hfL q o hq).1) (fun b _ _=>rfl) (Nat.le_refl _) (fun b _ hf=>hf.elim) (fun _ _ _ _ _ _ hf=>hf) (fun _ _ _ _ _ _ hf=>hf) (fun o ho=>by
   simp only [Option.some.injEq] at ho; subst ho
   refine ⟨⟨by rw [setρ_eq]; rfl,by rw [setρ_eq],.inl ⟨by rw [setρ_eq],rfl,rfl⟩⟩,fun b hf=>?_,fun b hi=>?_⟩
   ·have:=hf.1; rw [setρ_eq] at this; cases this
   ·have:=hi.2.1; rw [setρ_eq] at this; cases this)
 have hq' : (fun x=>if key == x then some (MObj.rr true e [] none) else getO L x) q = some (.cells cs):=by
  show (if key == q then _ else _) = _
  rw [if_neg (by simpa using fun e=>hqk e.symm)]; exact hq
 have t2:=t1.turn (ρ':=setρ ρ key ⟨0,0,0,true,1⟩) (w':=w) q (some (.cells (cs.set j (.sl key)))) (fun _=>False) (fun _ _=>rfl) (.inl rfl) (fun b _ _=>rfl) (Nat.le_refl _) (fun b _ hf=>hf.elim) (fun _ _ _ _ _ _ hf=>hf) (fun o ho=>by
   simp only [Option.some.injEq] at ho; subst ho
   obtain ⟨g0,vs,T,g1,g2⟩:=t1.obj q _ hq'
   exact ⟨⟨g0,vs,T,g1,cvL_set hr hj g2⟩,fun b hf=>⟨t1.djm q _ b hq' hf,t1.djX q _ b hq' hf,fun k' o' hne ho' hf'=>hne (t1.dj k' o' q _ b ho' hq' hf' hf)⟩⟩)
 refine ⟨h1,h2,setρ ρ key ⟨0,0,0,true,1⟩,m,fun t y hy=>?_,t2,h5,fun q hq=>(hρ q (by omega)).trans (h6 q hq)⟩
 obtain ⟨v,hv,hc⟩:=h3 t y hy
 exact ⟨v,hv,Cv.mono (Mle.refl m) y v (fun q hq=>hρ q (fun e=>by rw [e,freshA_ok hfA t y hy] at hq; cases hq)) hc⟩
theorem TC_ownRC {P : Program} {Γ : Gd} {N : Nat} {Q : Exit → Act → World → Prop} {A : List (Nat × MV)} {L : List (Nat × Option MObj)} {c : Code} (q j key : Nat) (e : Kd) {cs : List MV} (hq : getO L q = some (.cells cs)) (hj : cs[j]? = some .nils) (hk : 1000 ≤ key) (hfA : freshA key A = true) (hfL : freshL key L = true) (h : TC P Γ N c Q A ((q,some (.cells (cs.set j (.sl key)))) :: (key,some (.rr true e [] none)) :: L)) : TC P Γ N c Q A L:=fun a w hs=>h a w (hs.ownRC hq hj key e hk hfA hfL)
end
end Go.Fo
