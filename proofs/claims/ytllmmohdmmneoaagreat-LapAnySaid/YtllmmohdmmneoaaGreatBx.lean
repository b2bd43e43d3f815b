/- What is written by hand of the library that a bank stands on: atomics, a lock, what is done once. -/
import Derived.Test.YtllmmohdmmneoaaGreatProg
import Derived.Tactics
import Derived.Tactics2
import Derived.Defers
import Derived.Laws.Pointers
import Derived.Laws.LoneSync
import Derived.RegionTactic
import Derived.RegionCalls
import Derived.ChangeAlike
import Derived.KernelRfl
import Derived.Test.YtllmmohdmmneoaaGreatJ4
namespace Go.Fo
section
open Go.Proofs
set_option maxRecDepth 100000

theorem vC (a:Addr) (d:Int) (w:World) (h0:w.cell? a=some (.int .u32 d)) :
    Calls Tryz.prog 188 #[.pointer (some a)] w fun e w' => e=.returned (.bool (d != 0))/\w'=w := by
  have hl := run_call_load (P := Tryz.prog) Tryz.func192 (by kernel_rfl) (by kernel_rfl) (by kernel_rfl) .u32 (by kernel_rfl) h0
  go_enter Tryz.func188, Tryz.ntmps188
  go_wp2
  go_ret
  exact ⟨rfl, rfl⟩

theorem ZS (a:Addr) (x y s:Int) (w:World) (h0:w.cell? a=some (.int .i64 x)) (hz:w.frozen? a=false) (hs:(Op.intArith .add .i64 x y).run Tryz.prog w=.ok (.int .i64 s) w) :
    Calls Tryz.prog 182 #[.pointer (some a), .int .i64 y] w fun e w' => e=.returned (.int .i64 s)/\w'=w.setCell a (.int .i64 s) := by
  have hl := run_call_add (P := Tryz.prog) Tryz.func190 (by kernel_rfl) (by kernel_rfl) (by kernel_rfl) .i64 (by kernel_rfl) h0 hz hs
  go_enter Tryz.func182, Tryz.ntmps182
  go_wp2
  go_ret
  exact ⟨rfl, rfl⟩

theorem KZ (w:World):(callFunc 200 #[]).run Tryz.prog w=.ok (.value (.tuple #[])) w := run_call_mark0 Tryz.func200 (by kernel_rfl) (by kernel_rfl) (by kernel_rfl) .disable (by kernel_rfl) w
theorem Yp (w:World):(callFunc 202 #[]).run Tryz.prog w=.ok (.value (.tuple #[])) w := run_call_mark0 Tryz.func202 (by kernel_rfl) (by kernel_rfl) (by kernel_rfl) .enable (by kernel_rfl) w
theorem Vq (a:Addr) (w:World):(callFunc 203 #[.pointer (some a)]).run Tryz.prog w=.ok (.value (.tuple #[])) w := run_call_marked Tryz.func203 (by kernel_rfl) (by kernel_rfl) (by kernel_rfl) .acquire (by kernel_rfl) a w
theorem Vu (a:Addr) (w:World):(callFunc 205 #[.pointer (some a)]).run Tryz.prog w=.ok (.value (.tuple #[])) w := run_call_marked Tryz.func205 (by kernel_rfl) (by kernel_rfl) (by kernel_rfl) .releaseMerge (by kernel_rfl) a w

/-- the flag's store, entered as a deferred call -/
theorem Zy (a:Addr) (x:Value) (u:FrameMode) (w:World) (hc:w.cell? a=some x) (hz:w.frozen? a=false) :
    CallsD Tryz.prog 195 #[.pointer (some a), .bool true] u w fun e u' w' => u'=u/\(e=.returned (.tuple #[])/\w'=w.drew.setCell a (.int .u32 1)) := by
  have hc':w.drew.cell? a=some x := by go_simp
  have hz':w.drew.frozen? a=false := by go_simp
  have hst := run_call_store (P := Tryz.prog) Tryz.func198 (by kernel_rfl) (by kernel_rfl) (by kernel_rfl) (by kernel_rfl) (k := .u32) (y := 1) hc' hz'
  go_enter_d Tryz.func195, Tryz.ntmps195
  go_wp2
  go_region_calls
  all_goals (go_end0;exact ⟨rfl, rfl⟩)

/-- the lock's end, entered as a deferred call -/
theorem WX (a:Addr) (u:FrameMode) (w:World) (hc:w.cell? a=some (.int .i32 1)) (hz:w.frozen? a=false) :
    CallsD Tryz.prog 194 #[.pointer (some a)] u w fun e u' w' => u'=u/\(e=.returned (.tuple #[])/\w'=w.setCell a (.int .i32 0)) := by
  have hd := KZ
  have he := Yp
  have hr := Vu
  have hadd := run_call_add (P := Tryz.prog) Tryz.func206 (by kernel_rfl) (by kernel_rfl) (by kernel_rfl) .i32 (by kernel_rfl) (y := -1) (s := 0) hc hz (by simp[go_sem];rfl)
  have hcv := run_convert_to_unsafe (P := Tryz.prog) (src := 328) (dst := 332) Tryz.underlying328 Tryz.underlying332 (by kernel_rfl) hc
  go_enter_d Tryz.func194, Tryz.ntmps194
  go_wp2
  go_end0
  go_wp2
  go_end0
  exact ⟨rfl, rfl⟩

/-- the lock, which is free -/
theorem YO (a:Addr) (w:World) (hc:w.cell? a=some (.int .i32 0)) (hz:w.frozen? a=false) :
    Calls Tryz.prog 193 #[.pointer (some a)] w fun e w' => e=.returned (.tuple #[])/\w'=w.setCell a (.int .i32 1) := by
  have hd := KZ
  have he := Yp
  have ha := Vq
  have hcas := run_call_cas_hit (P := Tryz.prog) Tryz.func201 (by kernel_rfl) (by kernel_rfl) (by kernel_rfl) .i32 (by kernel_rfl) (y := 1) hc hz
  have hc':(w.setCell a (.int .i32 1)).cell? a=some (.int .i32 1) := World.cell?_setCell_same w a _ hc
  have hcv := run_convert_to_unsafe (P := Tryz.prog) (src := 328) (dst := 332) Tryz.underlying328 Tryz.underlying332 (by kernel_rfl) hc'
  go_enter Tryz.func193, Tryz.ntmps193
  go_wp2
  first|go_end0|(simp only[Exit.inBlock, Exit.then];refine bodyPost_ret (results_none rfl _ _ _) rfl ?_)|refine bodyPost_ret (results_none rfl _ _ _) rfl ?_
  go_wp2
  go_end0
  exact ⟨rfl, rfl⟩
end
section
open Go.Proofs
set_option maxRecDepth 100000
set_option maxRecDepth 100000 in
set_option maxHeartbeats 1600000 in
/-- the slow road of what is done once: the lock; the function; the flag; the lock's end -/
theorem JO (b off:Nat) (caps:Array Value) (w:World) (R:World->Prop)
    (h0:w.cell? ⟨b, off, none⟩=some (.int .u32 0)) (h1:w.cell? ⟨b, off+1, none⟩=some (.int .i32 0)) (f1:w.frozen? ⟨b, off+1, none⟩=false)
    (hF:Calls Tryz.prog 181 caps (w.setCell ⟨b, off+1, none⟩ (.int .i32 1)) fun e w1 => e=.returned (.tuple #[])/\R w1)
    (hR:∀w1, R w1->(∃x, w1.cell? ⟨b, off, none⟩=some x)/\w1.frozen? ⟨b, off, none⟩=false/\w1.cell? ⟨b, off+1, none⟩=some (.int .i32 1)/\w1.frozen? ⟨b, off+1, none⟩=false) :
    Calls Tryz.prog 189 #[.pointer (some ⟨b, off, none⟩), .func (.func 181) #[] caps] w fun e w' => e=.returned (.tuple #[]) ∧
      ∃w1, R w1/\w'=((w1.drew.setCell ⟨b, off, none⟩ (.int .u32 1)).setCell ⟨b, off+1, none⟩ (.int .i32 0)) := by
  have h0' := (World.cell?_setCell_other w ⟨b, off+1, none⟩ ⟨b, off, none⟩ (.int .i32 1) (by simp)).trans h0
  have hnot:∀(x:Bool) (w:World), (Op.unary .not (.bool x)).run Tryz.prog w=.ok (.bool (!x)) w := fun _ _ => rfl
  go_enter_defers Tryz.func189, Tryz.ntmps189
  go_wp2_with (first|(go_at_call 193;refine (YO ⟨b, off+1, none⟩ _ (by go_simp) (by go_simp)).mono ?_;rintro e w' ⟨rfl, rfl⟩)|(go_at_call 188;refine (vC _ 0 _ h0').mono ?_;rintro e w' ⟨rfl, rfl⟩)|(go_at_call 181;refine hF.mono ?_;rintro e w1 ⟨rfl, hr⟩))
  obtain ⟨⟨x0, g0⟩, g1, g2, g3⟩ := hR w1 hr
  refine leaves_cons (f := 195) (args := #[.pointer (some ⟨b, off, none⟩), .bool true]) (by simp) (by simp[go_sem]) ?_
  refine (Zy ⟨b, off, none⟩ x0 .returning _ g0 g1).mono ?_
  rintro e u' w'' ⟨rfl, rfl, rfl⟩
  refine leaves_cons (f := 194) (args := #[.pointer (some ⟨b, off+1, none⟩)]) (by simp[settle]) (by simp[go_sem]) ?_
  refine (WX ⟨b, off+1, none⟩ _ _ ?_ (by simp[g3])).mono ?_
  · refine (World.cell?_setCell_other _ ⟨b, off, none⟩ ⟨b, off+1, none⟩ _ (by simp)).trans ?_
    rw[World.cell?_drew];exact g2
  rintro e u' w'' ⟨rfl, rfl, rfl⟩
  simp[Leaves, settle, results, Tryz.results189]
  exact ⟨w1, hr, rfl⟩
end
section
open Go.Proofs

theorem Wx {k0:Nat} {o o':MObj} {Lr:List (Nat×Option MObj)}:(fun k => if k0==k then some o' else ww ((k0, some o)::Lr) k)=ww ((k0, some o')::Lr) := by
  funext k
  simp only[ww]
  split<;>rfl

theorem WP {pre cs post:List MV} {d:Int} {o:Nat} {Lr:List (Nat×Option MObj)} (ho:o=pre.length) :
    Fn Tryz.prog 188 [.pf 0 o 0] ((0, some (.foc pre (.int .u32 d::cs) post))::Lr) (.bool (d != 0)) ((0, some (.foc pre (.int .u32 d::cs) post))::Lr) := by
  intro X ρ m w vs hp hv
  obtain ⟨v, us, rfl, hv, hus⟩ := hv
  simp only[CvL] at hus;subst hus
  simp only[Cv] at hv;subst hv
  obtain ⟨u, h1, h2, h3⟩ := vx (hp.obj 0 _ rfl) (j := 0) rfl
  simp only[Cv] at h2;subst h2
  subst ho
  refine (vC _ d w h1).mono ?_
  rintro e w' ⟨rfl, rfl⟩
  exact ⟨ρ, m, _, rfl, rfl, hp, Nx.refl .., fun _ _ => rfl⟩

theorem WQ {pre cs post:List MV} {x y:Int} {c i:Nat} {Lr:List (Nat×Option MObj)} (hc:c=pre.length+(cs.length+i)) (hx:post[i]? = some (.int .i64 x)) :
    Fn Tryz.prog 182 [.p 0 c, .int .i64 y] ((0, some (.foc pre cs post))::Lr) (.int .i64 (wb .i64 (x+y))) ((0, some (.foc pre cs (post.set i (.int .i64 (wb .i64 (x+y))))))::Lr) := by
  intro X ρ m w vs hp hv
  obtain ⟨v, us, rfl, hv, v2, us2, rfl, hv2, hus⟩ := hv
  simp only[CvL] at hus;subst hus
  simp only[Cv] at hv hv2;subst hv;subst hv2
  obtain ⟨u, h1, h2, h3⟩ := VN (hp.obj 0 _ rfl) hx
  simp only[Cv] at h2;subst h2
  subst hc
  have hi:i<post.length := (List.getElem?_eq_some_iff.1 hx).1
  obtain ⟨g1, g2⟩ := hp.setpost (key := 0) rfl hi (x := .int .i64 (wb .i64 (x+y))) rfl rfl
  rw[Wx] at g1
  refine (ZS _ x y _ w h1 h3 rfl).mono ?_
  rintro e w' ⟨rfl, rfl⟩
  exact ⟨ρ, m, _, rfl, rfl, g1, g2, fun _ _ => rfl⟩


theorem X8 {pre post post':List MV} {o:Nat} {t':MV} {xs:List MV} {Lr Lr':List (Nat×Option MObj)} (ho:o=pre.length)
    (hF:Fn Tryz.prog 181 xs ((0, some (.foc pre [.int .u32 0, .int .i32 1, .int .u32 0, .nils] post))::Lr) (.tup []) ((0, some (.foc pre [.int .u32 0, .int .i32 1, .int .u32 0, t'] post'))::Lr')) :
    Fn Tryz.prog 189 [.pf 0 o 0, .fn 181 xs] ((0, some (.foc pre [.int .u32 0, .int .i32 0, .int .u32 0, .nils] post))::Lr) (.tup []) ((0, some (.foc pre [.int .u32 1, .int .i32 0, .int .u32 0, t'] post'))::Lr') := by
  intro X ρ m w vs hp hv
  obtain ⟨v, us, rfl, hv, v2, us2, rfl, ⟨ws, rfl, hws⟩, hus⟩ := hv
  simp only[CvL] at hus;subst hus
  simp only[Cv] at hv;subst hv
  subst ho
  obtain ⟨u0, a1, a2, a3⟩ := vx (hp.obj 0 _ rfl) (j := 0) rfl
  obtain ⟨u1, b1, b2, b3⟩ := vx (hp.obj 0 _ rfl) (j := 1) rfl
  simp only[Cv] at a2 b2;subst a2;subst b2
  obtain ⟨g1, g2⟩ := hp.setfoc (key := 0) rfl (j := 1) (by decide) (x := .int .i32 1) rfl rfl
  rw[Wx] at g1
  refine (JO (ρ 0).blk pre.length ws.toArray w (fun w2 => ∃ρ' m', Hp X ρ' m' (ww ((0, some (.foc pre [.int .u32 0, .int .i32 1, .int .u32 0, t'] post'))::Lr')) w2/\Nx X m m' w w2/\∀k, k<1000->ρ' k=ρ k) a1 b1 b3 ?_ ?_).mono ?_
  · refine (hF X ρ m _ ws g1 hws).mono ?_
    rintro e w2 ⟨ρ', m', v, rfl, hv, hp', hn, hr⟩
    obtain ⟨q, rfl, hq⟩ := hv
    simp only[CvL] at hq;subst hq
    exact ⟨rfl, ρ', m', hp', g2.trans hn, hr⟩
  · rintro w2 ⟨ρ', m', hp', hn, hr⟩
    obtain ⟨u0, c1, c2, c3⟩ := vx (hp'.obj 0 _ rfl) (j := 0) rfl
    obtain ⟨u1, d1, d2, d3⟩ := vx (hp'.obj 0 _ rfl) (j := 1) rfl
    simp only[Cv] at d2;subst d2
    rw[hr 0 (by decide)] at c1 c3 d1 d3
    exact ⟨⟨_, c1⟩, c3, d1, d3⟩
  · rintro e w' ⟨rfl, w2, ⟨ρ', m', hp', hn, hr⟩, rfl⟩
    obtain ⟨k1, k2⟩ := hp'.drew
    obtain ⟨k3, k4⟩ := k1.setfoc (key := 0) rfl (j := 0) (by simp) (x := .int .u32 1) rfl rfl
    rw[Wx] at k3
    obtain ⟨k5, k6⟩ := k3.setfoc (key := 0) rfl (j := 1) (by simp) (x := .int .i32 0) rfl rfl
    rw[Wx] at k5
    rw[hr 0 (by decide)] at k4 k5 k6
    exact ⟨ρ', m', _, rfl, ⟨[], rfl, rfl⟩, k5, hn.trans (k2.trans (k4.trans k6)), hr⟩

theorem W4 {f:FuncId} {t0 t1:List (Option Li)} {x x':Option Li} {a b a' b':Int} {o:Nat} {y z res:MV} {Lr Lr':List (Nat×Option MObj)}
    (hF:Fn Tryz.prog f [.p 0 0, .pf 0 o 0, y, z] ((0, some (.foc (tcs t0) (tcell x) (pst t1 a b)))::Lr) res ((0, some (.foc (tcs t0) (tcell x') (pst t1 a' b')))::Lr')) :
    Fn Tryz.prog f [.p 0 0, .p 0 o, y, z] ((0, some (.ab (bkA (t0++x::t1) a b)))::Lr) res ((0, some (.ab (bkA (t0++x'::t1) a' b')))::Lr') := by
  intro X ρ m w vs hp hv
  have e1:∀(x:Option Li) (a b:Int), bkA (t0++x::t1) a b=Abs.of (tcs t0++(tcell x++pst t1 a b)) := fun x a b => by unfold bkA;rw[uA]
  have hp':Hp X ρ m (ww ((0, some (.foc (tcs t0) (tcell x) (pst t1 a b)))::Lr)) w := hp.conv (hI := (fun k o b hk hi => by
    simp only[ww] at hk ⊢
    split at hk
    · simp only[Option.some.injEq] at hk;subst hk;exact hi.elim
    · rename_i e;rw[if_neg e];exact hk)) fun k o hk => by
    simp only[ww] at hk ⊢
    split at hk
    · rename_i e
      simp only[Option.some.injEq] at hk;subst hk
      rw[if_pos e]
      have e':0=k := beq_iff_eq.1 e
      subst e'
      refine ⟨_, rfl, (Zg (Zo x)).1 ?_⟩
      rw[<-e1];exact hp.obj 0 _ rfl
    · rename_i e
      rw[if_neg e]
      exact ⟨o, hk, hp.obj k o (by simp only[ww];rw[if_neg e];exact hk)⟩
  refine (hF X ρ m w vs hp' hv).mono ?_
  rintro e w' ⟨ρ', m', v, rfl, h1, h2, h3, h4⟩
  refine ⟨ρ', m', v, rfl, h1, h2.conv (hI := (fun k o b hk hi => by
    simp only[ww] at hk ⊢
    split at hk
    · simp only[Option.some.injEq] at hk;subst hk;exact hi.elim
    · rename_i e;rw[if_neg e];exact hk)) fun k o hk => ?_, h3, h4⟩
  simp only[ww] at hk ⊢
  split at hk
  · rename_i e
    simp only[Option.some.injEq] at hk;subst hk
    rw[if_pos e]
    have e':0=k := beq_iff_eq.1 e
    subst e'
    refine ⟨_, rfl, ?_⟩
    rw[e1]
    exact (Zg (Zo x')).2 (h2.obj 0 _ rfl)
  · rename_i e
    rw[if_neg e]
    exact ⟨o, hk, h2.obj k o (by simp only[ww];rw[if_neg e];exact hk)⟩
end
end Go.Fo
