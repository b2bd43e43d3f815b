/- Each call comes to the function that is written for it. -/
import Derived.Test.YtphienllhdoenaaGreatSn9T
import Derived.Test.YtphienllhdoenaaGreatSn9F
import Derived.Test.YtphienllhdoenaaGreatBx
import Derived.Test.YtphienllhdoenaaGreatSn9P0
namespace Go.Fo
open Go.Proofs
set_option maxRecDepth 20000
set_option maxHeartbeats 4000000
def alloc_sharing_each.res (_p0 _p1 _p2 : Int) (_p3 _p4 : List (List Int)) : Int × (List (List Int)) → MV
 | (_,_)=>.tup []
def alloc_sharing_each.out (p0 _p1 p2 : Int) (p3 _p4 : List (List Int)) : Int × (List (List Int)) → List (Nat × Option MObj)
 | (q0,q1)=>[(0,some (.cells [.int .i64 p0,.int .i64 q0,.int .i64 p2,.im (.slice (.slice (.int .i64))) p3,.sl 2])),(1,some (.cells [.p 0 0])),(2,some (.rr true (.int .i64) q1 none))]
theorem alloc_sharing_each.ok {K : Nat} {p0 p1 p2 : Int} {p3 p4 : List (List Int)} {r : Int × (List (List Int))} (h0 : alloc_sharing_each K p0 p1 p2 p3 p4 = some r) : Fn Tryz.prog 114 [.p 0 0,.fn 164 [.p 1 0]] [(0,some (.cells [.int .i64 p0,.int .i64 p1,.int .i64 p2,.im (.slice (.slice (.int .i64))) p3,.sl 2])),(1,some (.cells [.p 0 0])),(2,some (.rr true (.int .i64) p4 none))] (alloc_sharing_each.res p0 p1 p2 p3 p4 r) (alloc_sharing_each.out p0 p1 p2 p3 p4 r):=by
 refine Fn_of Tryz.func114 rfl (Nat.le_of_ble_eq_true rfl) fun Γ=>?_
 unfold alloc_sharing_each at h0
 refine zr ?_
 obtain ⟨g,h0⟩:=gd_t h0
 refine zv 8 rfl ⟨tv,tv,tv,⟨tv,tv⟩,⟨tv,tv,(by decide),g⟩,⟨tv,tv⟩,⟨tv,tv⟩,tv,tv⟩ ?_
 refine ze ?_
 obtain ⟨z1,h1,h0⟩:=bnd h0
 refine TC_cut (α:=Int × (List (List Int))) (fun s=>z1 = s) (fun s=>[]) (fun s=>[(0,some (.cells [.int .i64 p0,.int .i64 s.1,.int .i64 p2,.im (.slice (.slice (.int .i64))) p3,.sl 2])),(1,some (.cells [.p 0 0])),(2,some (.rr true (.int .i64) s.2 none))]) ?_ ?_
 ·refine TC_blk ?_
  refine TC_loop (α:=Int × Int × (List (List Int))) (fun n s=>alloc_sharing_each.l0 K ((Kd.nth (.slice (.int .i64)) p3 0).length : Int) p0 p2 p3 n s.1 s.2.1 s.2.2 = some z1) (fun s=>[(0,.p 0 0),(1,.fn 164 [.p 1 0]),(12,.int .i64 ((Kd.nth (.slice (.int .i64)) p3 0).length : Int)),(13,.int .i64 s.1)]) (fun s=>[(0,some (.cells [.int .i64 p0,.int .i64 s.2.1,.int .i64 p2,.im (.slice (.slice (.int .i64))) p3,.sl 2])),(1,some (.cells [.p 0 0])),(2,some (.rr true (.int .i64) s.2.2 none))]) K ?_ ?_
  ·exact SP_ren [] (_,_,_) h1 ⟨rfl,rfl,rfl,rfl,tv⟩ ⟨rfl,rfl,rfl,tv⟩ rfl
  rintro n ⟨x179,x180,x181⟩ h1
  rcases n with _ | n
  ·exact (nsome h1).elim
  replace h1 : alloc_sharing_each.r0 K ((Kd.nth (.slice (.int .i64)) p3 0).length : Int) p0 p2 p3 (alloc_sharing_each.l0 K ((Kd.nth (.slice (.int .i64)) p3 0).length : Int) p0 p2 p3 n) x179 x180 x181 = some z1:=h1
  refine zr ?_
  refine zv 1 rfl ⟨⟨tv,tv,tv⟩,tv⟩ ?_
  refine ze ?_
  refine TC_seq ?_
  refine TC_cond rfl (fun hb=>?_) (fun hb=>?_)
  ·replace h1:=bif_t h1 hb
   refine TC_skip ?_
   refine TE_go ?_
   refine TC_seq ?_
   refine TC_blk ?_
   refine zr ?_
   refine zv 2 rfl ⟨tv,tv,tv⟩ ?_
   refine zn ?_
   refine zv 6 rfl ⟨tv,tv,tv,⟨tv,tv⟩,⟨tv,tv⟩,tv,tv⟩ ?_
   refine ze ?_
   obtain ⟨z2,h2,h1⟩:=bnd h1
   refine TC_cut (α:=Int × (List (List Int))) (fun s=>z2 = s) (fun s=>[(0,.p 0 0),(1,.fn 164 [.p 1 0]),(12,.int .i64 ((Kd.nth (.slice (.int .i64)) p3 0).length : Int)),(13,.int .i64 x179)]) (fun s=>[(0,some (.cells [.int .i64 p0,.int .i64 s.1,.int .i64 p2,.im (.slice (.slice (.int .i64))) p3,.sl 2])),(1,some (.cells [.p 0 0])),(2,some (.rr true (.int .i64) s.2 none))]) ?_ ?_
   ·refine TC_blk ?_
    refine TC_loop (α:=Int × Int × (List (List Int))) (fun n s=>alloc_sharing_each.l1 K x179 ((Kd.nth (.slice (.int .i64)) p3 0).length : Int) (p3.length : Int) p0 p2 p3 n s.1 s.2.1 s.2.2 = some z2) (fun s=>[(0,.p 0 0),(1,.fn 164 [.p 1 0]),(4,.int .i64 x179),(12,.int .i64 ((Kd.nth (.slice (.int .i64)) p3 0).length : Int)),(13,.int .i64 x179),(20,.int .i64 (p3.length : Int)),(21,.int .i64 s.1)]) (fun s=>[(0,some (.cells [.int .i64 p0,.int .i64 s.2.1,.int .i64 p2,.im (.slice (.slice (.int .i64))) p3,.sl 2])),(1,some (.cells [.p 0 0])),(2,some (.rr true (.int .i64) s.2.2 none))]) K ?_ ?_
    ·exact SP_ren [] (_,_,_) h2 ⟨rfl,rfl,rfl,rfl,rfl,rfl,rfl,tv⟩ ⟨rfl,rfl,rfl,tv⟩ rfl
    rintro n ⟨x255,x256,x257⟩ h2
    rcases n with _ | n
    ·exact (nsome h2).elim
    replace h2 : alloc_sharing_each.r1 K x179 ((Kd.nth (.slice (.int .i64)) p3 0).length : Int) (p3.length : Int) p0 p2 p3 (alloc_sharing_each.l1 K x179 ((Kd.nth (.slice (.int .i64)) p3 0).length : Int) (p3.length : Int) p0 p2 p3 n) x255 x256 x257 = some z2:=h2
    refine zr ?_
    refine zv 1 rfl ⟨⟨tv,tv,tv⟩,tv⟩ ?_
    refine ze ?_
    refine TC_seq ?_
    refine TC_cond rfl (fun hb=>?_) (fun hb=>?_)
    ·replace h2:=bif_t h2 hb
     refine TC_skip ?_
     refine TE_go ?_
     refine TC_seq ?_
     refine TC_blk ?_
     refine zr ?_
     refine zv 2 rfl ⟨tv,tv,tv⟩ ?_
     refine ze ?_
     refine TC_seq ?_
     refine TC_renw (A':=[(0,.p 0 0),(1,.fn 164 [.p 1 0]),(4,.int .i64 _),(5,.int .i64 _),(12,.int .i64 _),(13,.int .i64 _),(20,.int .i64 _),(21,.int .i64 _)]) (L':=[(0,some (.cells [.int .i64 _,.int .i64 _,.int .i64 _,.im (.slice (.slice (.int .i64))) _,.sl 2])),(1,some (.cells [.p 0 0])),(2,some (.rr true (.int .i64) _ none))]) [] ⟨rfl,rfl,rfl,rfl,rfl,rfl,rfl,rfl,tv⟩ ⟨rfl,rfl,rfl,tv⟩ rfl ?_
     refine zd [[],[],[1],[2,1],[3,2,1],[],[5,4,3,2,1],[6,5,4,3,2,1],[],[8,7,6,5,4,3,2,1],[9,8,7,6,5,4,3,2,1],[],[11],[12,11],[13,12,11],[],[15,14,13,12,11],[16,15,14,13,12,11],[],[18,17,16,15,14,13,12,11],[19,18,17,16,15,14,13,12,11,10,9,8,7,6,5,4,3,2,1,0],[20,19,18,17,16,15,14,13,12,11,10,9,8,7,6,5,4,3,2,1,0]] [[],[],[],[],[],[],[],[],[],[],[],[],[],[],[],[],[],[2,1041],[],[],[0,1,2,1041],[]] [[],[],[],[],[],[],[],[],[],[],[],[],[],[],[],[],[],[1041],[],[],[],[]] [[2,1041],[2,1041],[2,1041],[2,1041],[2,1041],[2,1041],[2,1041],[2,1041],[2,1041],[2,1041],[2,1041],[],[],[],[],[],[],[],[2,1041],[],[],[]] (by kernel_rfl) (by kernel_rfl) ?_
     refine zj 1 rfl rfl rfl tv ?_
     refine zj 2 rfl rfl rfl tv ?_
     refine zj 3 rfl rfl rfl tv ?_
     refine zj 4 rfl rfl rfl tv ?_
     refine zj 5 rfl rfl rfl ⟨tv,tv⟩ ?_
     refine zj 6 rfl rfl rfl tv ?_
     obtain ⟨g,h2⟩:=gd_t h2
     refine zj 7 rfl rfl rfl ⟨tv,tv,g.1,g.2⟩ ?_
     refine zj 8 rfl rfl rfl ⟨tv,tv⟩ ?_
     refine zj 9 rfl rfl rfl tv ?_
     obtain ⟨g,h2⟩:=gd_t h2
     refine zj 10 rfl rfl rfl ⟨tv,tv,g.1,g.2⟩ ?_
     refine zj 11 rfl rfl rfl ⟨tv,tv⟩ ?_
     refine zj 12 rfl rfl rfl tv ?_
     refine zj 13 rfl rfl rfl tv ?_
     refine zj 14 rfl rfl rfl tv ?_
     refine zj 15 rfl rfl rfl ⟨tv,tv⟩ ?_
     refine zj 16 rfl rfl rfl tv ?_
     obtain ⟨g,h2⟩:=gd_t h2
     refine zj 17 rfl rfl rfl ⟨tv,tv,g.1,g.2⟩ ?_
     obtain ⟨g,h2⟩:=gd_t h2
     refine zj 18 rfl rfl rfl ⟨tv,g⟩ ?_
     refine zj 19 rfl rfl rfl tv ?_
     obtain ⟨g,h2⟩:=gd_t h2
     refine zj 20 rfl rfl rfl ⟨tv,tv,g.1,g.2⟩ ?_
     obtain ⟨⟨r271,r272⟩,hr,h2⟩:=bnd h2
     refine AJR_call 21 rfl (Nat.le_of_ble_eq_true rfl) [(0,1041),(1,1),(2,0),(3,2)] rfl (alloc_sharing_cut_1.ok0 hr) alloc_sharing_cut_1.fnb rfl ⟨tv,⟨tv,⟨tv,tv⟩⟩⟩ rfl ⟨.inr rfl,.inr rfl,.inr rfl,.inr rfl,tv⟩ rfl ?_
     refine zj 22 rfl rfl rfl tv ?_
     refine AJR_end rfl rfl rfl ?_
     refine TE_go ?_
     refine TC_cond rfl (fun hb=>?_) (fun hb=>?_)
     ·first | exact (ftf hb).elim | exact (tff hb).elim | exact absurd hb (by decide)
     ·refine TC_skip ?_
      refine tbn ?_
      refine zt ?_
      refine zv 2 rfl ⟨⟨tv,tv,tv⟩,tv,tv⟩ ?_
      refine zm ?_
      exact TE_nextr [] n (zs n) (_,_,_) h2 ⟨rfl,rfl,rfl,rfl,rfl,rfl,rfl,tv⟩ ⟨rfl,rfl,rfl,tv⟩ rfl
    ·replace h2:=bif_f h2 hb
     refine TC_exit ?_
     refine tsx ?_
     refine tsx ?_
     refine tbe ?_
     obtain rfl:=sinj h2
     refine tsn ?_
     exact SP_ren [] (_,_) rfl ⟨rfl,rfl,rfl,rfl,tv⟩ ⟨rfl,rfl,rfl,tv⟩ rfl
   ·rintro ⟨x248,x249⟩ rfl
    refine tbn ?_
    refine zt ?_
    refine zv 2 rfl ⟨⟨tv,tv,tv⟩,tv,tv⟩ ?_
    refine zm ?_
    exact TE_nextr [] n (zs n) (_,_,_) h1 ⟨rfl,rfl,rfl,rfl,tv⟩ ⟨rfl,rfl,rfl,tv⟩ rfl
  ·replace h1:=bif_f h1 hb
   refine TC_exit ?_
   refine tsx ?_
   refine tsx ?_
   refine tbe ?_
   obtain rfl:=sinj h1
   refine tsn ?_
   exact SP_ren [] (_,_) rfl tv ⟨rfl,rfl,rfl,tv⟩ rfl
 ·rintro ⟨x145,x146⟩ rfl
  obtain rfl:=sinj h0
  exact TE_end env rfl tv ⟨.inr rfl,.inr rfl,.inr rfl,tv⟩
theorem alloc_sharing_each.ok0 {K : Nat} {p0 p1 p2 : Int} {p3 p4 : List (List Int)} {q0 : Int} {q1 : List (List Int)} (h0 : alloc_sharing_each K p0 p1 p2 p3 p4 = some (q0,q1)) : Fn Tryz.prog 114 [.p 0 0,.fn 164 [.p 1 0]] [(0,some (.cells [.int .i64 p0,.int .i64 p1,.int .i64 p2,.im (.slice (.slice (.int .i64))) p3,.sl 2])),(1,some (.cells [.p 0 0])),(2,some (.rr true (.int .i64) p4 none))] (.tup []) [(0,some (.cells [.int .i64 p0,.int .i64 q0,.int .i64 p2,.im (.slice (.slice (.int .i64))) p3,.sl 2])),(1,some (.cells [.p 0 0])),(2,some (.rr true (.int .i64) q1 none))]:=alloc_sharing_each.ok h0
theorem alloc_sharing_each.fnb : fnb Tryz.prog 114 = true:=fnb_of Tryz.func114 rfl
def alloc_sharing_costs_1.res (_p0 : Int) (_p1 : Nat) (_p2 : List Int) (_p3 _p4 _p5 _p6 : Int) (_p7 _p8 : List (List Int)) (_p9 : Nat) : Int × (List (List Int)) → MV
 | (_,_)=>.bool true
def alloc_sharing_costs_1.out (_p0 : Int) (_p1 : Nat) (_p2 : List Int) (_p3 p4 p5 p6 : Int) (p7 _p8 : List (List Int)) (_p9 : Nat) : Int × (List (List Int)) → List (Nat × Option MObj)
 | (q0,q1)=>[(0,none),(1,some (.cells [.p 3 0])),(2,some (.cells [.int .i64 q0])),(3,some (.cells [.int .i64 p4,.int .i64 p5,.int .i64 p6,.im (.slice (.slice (.int .i64))) p7,.sl 4])),(4,some (.rr true (.int .i64) q1 none))]
theorem alloc_sharing_costs_1.ok {K : Nat} {p0 : Int} {p1 : Nat} {p2 : List Int} {p3 p4 p5 p6 : Int} {p7 p8 : List (List Int)} {p9 : Nat} {r : Int × (List (List Int))} (h0 : alloc_sharing_costs_1 K p0 p1 p2 p3 p4 p5 p6 p7 p8 p9 = some r) : Fn Tryz.prog 189 [.int .i64 p0,.pe 0 p1 0,.p 1 0,.p 2 0] [(0,some (.rows (.int .i64) p2)),(1,some (.cells [.p 3 0])),(2,some (.cells [.int .i64 p3])),(3,some (.cells [.int .i64 p4,.int .i64 p5,.int .i64 p6,.im (.slice (.slice (.int .i64))) p7,.sl 4])),(4,some (.rr true (.int .i64) p8 (some (p9,.sl 0))))] (alloc_sharing_costs_1.res p0 p1 p2 p3 p4 p5 p6 p7 p8 p9 r) (alloc_sharing_costs_1.out p0 p1 p2 p3 p4 p5 p6 p7 p8 p9 r):=by
 refine Fn_of Tryz.func189 rfl (Nat.le_of_ble_eq_true rfl) fun Γ=>?_
 refine zr ?_
 refine zv 1 rfl ⟨tv,tv⟩ ?_
 refine ze ?_
 refine TC_seq ?_
 refine zr ?_
 refine zv 7 rfl ⟨tv,⟨tv,tv⟩,tv,tv,⟨tv,tv⟩,⟨tv,tv,tv⟩,tv,tv⟩ ?_
 refine ze ?_
 obtain ⟨z1,h1,h0⟩:=bnd h0
 refine TC_cut (α:=Int × (List (List Int))) (fun s=>z1 = s) (fun s=>[]) (fun s=>[(1,some (.cells [.p 3 0])),(2,some (.cells [.int .i64 s.1])),(3,some (.cells [.int .i64 p4,.int .i64 p5,.int .i64 p6,.im (.slice (.slice (.int .i64))) p7,.sl 4])),(4,some (.rr true (.int .i64) s.2 none))]) ?_ ?_
 ·refine TC_blk ?_
  refine zr ?_
  refine zv 3 rfl ⟨tv,⟨tv,tv,tv⟩,tv,tv⟩ ?_
  refine ze ?_
  refine TC_cond rfl (fun hb=>?_) (fun hb=>?_)
  ·replace h1:=bif_t h1 hb
   refine TC_reg ?_
   refine zv 3 rfl ⟨⟨tv,tv⟩,⟨tv,tv,tv⟩,⟨tv,tv⟩,tv⟩ ?_
   refine TL_end ?_
   refine tbn ?_
   obtain rfl:=sinj h1
   refine tsn ?_
   refine TE_putb 4 0 rfl rfl ?_
   exact SP_ren [] (_,_) rfl tv ⟨rfl,rfl,rfl,rfl,tv⟩ rfl
  ·replace h1:=bif_f h1 hb
   refine zr ?_
   refine zv 7 rfl ⟨tv,⟨tv,tv,tv⟩,tv,fun eg=>tv,fun eg=>⟨fun e=>e,tv,tv⟩,⟨tv,fun e=>e,tv⟩,tv,tv⟩ ?_
   refine ze ?_
   refine TC_cond rfl (fun hb=>?_) (fun hb=>?_)
   ·replace h1:=bif_t h1 hb
    refine TC_reg ?_
    refine zv 3 rfl ⟨⟨tv,tv⟩,⟨tv,tv,tv⟩,⟨tv,tv⟩,tv⟩ ?_
    refine TL_end ?_
    refine tbn ?_
    obtain rfl:=sinj h1
    refine tsn ?_
    refine TE_putb 4 0 rfl rfl ?_
    exact SP_ren [] (_,_) rfl tv ⟨rfl,rfl,rfl,rfl,tv⟩ rfl
   ·replace h1:=bif_f h1 hb
    refine TC_skip ?_
    refine tbn ?_
    obtain rfl:=sinj h1
    refine tsn ?_
    refine TE_putb 4 0 rfl rfl ?_
    exact SP_ren [] (_,_) rfl tv ⟨rfl,rfl,rfl,rfl,tv⟩ rfl
 ·rintro ⟨x4,x5⟩ rfl
  refine zg ?_
  refine zv 1 rfl ⟨tv,tv⟩ ?_
  refine ze ?_
  refine TC_ret ?_
  obtain rfl:=sinj h0
  exact TE_ret env rfl tv ⟨.inl rfl,.inr rfl,.inr rfl,.inr rfl,.inr rfl,tv⟩
theorem alloc_sharing_costs_1.ok0 {K : Nat} {p0 : Int} {p1 : Nat} {p2 : List Int} {p3 p4 p5 p6 : Int} {p7 p8 : List (List Int)} {p9 : Nat} {q0 : Int} {q1 : List (List Int)} (h0 : alloc_sharing_costs_1 K p0 p1 p2 p3 p4 p5 p6 p7 p8 p9 = some (q0,q1)) : Fn Tryz.prog 189 [.int .i64 p0,.pe 0 p1 0,.p 1 0,.p 2 0] [(0,some (.rows (.int .i64) p2)),(1,some (.cells [.p 3 0])),(2,some (.cells [.int .i64 p3])),(3,some (.cells [.int .i64 p4,.int .i64 p5,.int .i64 p6,.im (.slice (.slice (.int .i64))) p7,.sl 4])),(4,some (.rr true (.int .i64) p8 (some (p9,.sl 0))))] (.bool true) [(0,none),(1,some (.cells [.p 3 0])),(2,some (.cells [.int .i64 q0])),(3,some (.cells [.int .i64 p4,.int .i64 p5,.int .i64 p6,.im (.slice (.slice (.int .i64))) p7,.sl 4])),(4,some (.rr true (.int .i64) q1 none))]:=alloc_sharing_costs_1.ok h0
theorem alloc_sharing_costs_1.fnb : fnb Tryz.prog 189 = true:=fnb_of Tryz.func189 rfl
def alloc_sharing_each_2.res (_p0 _p1 _p2 : Int) (_p3 : List (List Int)) (_p4 : Int) (_p5 : List (List Int)) : Int × (List (List Int)) → MV
 | (_,_)=>.tup []
def alloc_sharing_each_2.out (p0 p1 p2 : Int) (p3 : List (List Int)) (_p4 : Int) (_p5 : List (List Int)) : Int × (List (List Int)) → List (Nat × Option MObj)
 | (q0,q1)=>[(0,some (.cells [.int .i64 p0,.int .i64 p1,.int .i64 p2,.im (.slice (.slice (.int .i64))) p3,.sl 3])),(1,some (.cells [.p 0 0])),(2,some (.cells [.int .i64 q0])),(3,some (.rr true (.int .i64) q1 none))]
theorem alloc_sharing_each_2.ok {K : Nat} {p0 p1 p2 : Int} {p3 : List (List Int)} {p4 : Int} {p5 : List (List Int)} {r : Int × (List (List Int))} (h0 : alloc_sharing_each_2 K p0 p1 p2 p3 p4 p5 = some r) : Fn Tryz.prog 114 [.p 0 0,.fn 189 [.p 1 0,.p 2 0]] [(0,some (.cells [.int .i64 p0,.int .i64 p1,.int .i64 p2,.im (.slice (.slice (.int .i64))) p3,.sl 3])),(1,some (.cells [.p 0 0])),(2,some (.cells [.int .i64 p4])),(3,some (.rr true (.int .i64) p5 none))] (alloc_sharing_each_2.res p0 p1 p2 p3 p4 p5 r) (alloc_sharing_each_2.out p0 p1 p2 p3 p4 p5 r):=by
 refine Fn_of Tryz.func114 rfl (Nat.le_of_ble_eq_true rfl) fun Γ=>?_
 refine zr ?_
 obtain ⟨g,h0⟩:=gd_t h0
 refine zv 8 rfl ⟨tv,tv,tv,⟨tv,tv⟩,⟨tv,tv,(by decide),g⟩,⟨tv,tv⟩,⟨tv,tv⟩,tv,tv⟩ ?_
 refine ze ?_
 obtain ⟨z1,h1,h0⟩:=bnd h0
 refine TC_cut (α:=Int × (List (List Int))) (fun s=>z1 = s) (fun s=>[]) (fun s=>[(0,some (.cells [.int .i64 p0,.int .i64 p1,.int .i64 p2,.im (.slice (.slice (.int .i64))) p3,.sl 3])),(1,some (.cells [.p 0 0])),(2,some (.cells [.int .i64 s.1])),(3,some (.rr true (.int .i64) s.2 none))]) ?_ ?_
 ·refine TC_blk ?_
  refine TC_loop (α:=Int × Int × (List (List Int))) (fun n s=>alloc_sharing_each_2.l0 K ((Kd.nth (.slice (.int .i64)) p3 0).length : Int) p0 p1 p2 p3 n s.1 s.2.1 s.2.2 = some z1) (fun s=>[(0,.p 0 0),(1,.fn 189 [.p 1 0,.p 2 0]),(12,.int .i64 ((Kd.nth (.slice (.int .i64)) p3 0).length : Int)),(13,.int .i64 s.1)]) (fun s=>[(0,some (.cells [.int .i64 p0,.int .i64 p1,.int .i64 p2,.im (.slice (.slice (.int .i64))) p3,.sl 3])),(1,some (.cells [.p 0 0])),(2,some (.cells [.int .i64 s.2.1])),(3,some (.rr true (.int .i64) s.2.2 none))]) K ?_ ?_
  ·exact SP_ren [] (_,_,_) h1 ⟨rfl,rfl,rfl,rfl,tv⟩ ⟨rfl,rfl,rfl,rfl,tv⟩ rfl
  rintro n ⟨x179,x180,x181⟩ h1
  rcases n with _ | n
  ·exact (nsome h1).elim
  replace h1 : alloc_sharing_each_2.r0 K ((Kd.nth (.slice (.int .i64)) p3 0).length : Int) p0 p1 p2 p3 (alloc_sharing_each_2.l0 K ((Kd.nth (.slice (.int .i64)) p3 0).length : Int) p0 p1 p2 p3 n) x179 x180 x181 = some z1:=h1
  refine zr ?_
  refine zv 1 rfl ⟨⟨tv,tv,tv⟩,tv⟩ ?_
  refine ze ?_
  refine TC_seq ?_
  refine TC_cond rfl (fun hb=>?_) (fun hb=>?_)
  ·replace h1:=bif_t h1 hb
   refine TC_skip ?_
   refine TE_go ?_
   refine TC_seq ?_
   refine TC_blk ?_
   refine zr ?_
   refine zv 2 rfl ⟨tv,tv,tv⟩ ?_
   refine zn ?_
   refine zv 6 rfl ⟨tv,tv,tv,⟨tv,tv⟩,⟨tv,tv⟩,tv,tv⟩ ?_
   refine ze ?_
   obtain ⟨z2,h2,h1⟩:=bnd h1
   refine TC_cut (α:=Int × (List (List Int))) (fun s=>z2 = s) (fun s=>[(0,.p 0 0),(1,.fn 189 [.p 1 0,.p 2 0]),(12,.int .i64 ((Kd.nth (.slice (.int .i64)) p3 0).length : Int)),(13,.int .i64 x179)]) (fun s=>[(0,some (.cells [.int .i64 p0,.int .i64 p1,.int .i64 p2,.im (.slice (.slice (.int .i64))) p3,.sl 3])),(1,some (.cells [.p 0 0])),(2,some (.cells [.int .i64 s.1])),(3,some (.rr true (.int .i64) s.2 none))]) ?_ ?_
   ·refine TC_blk ?_
    refine TC_loop (α:=Int × Int × (List (List Int))) (fun n s=>alloc_sharing_each_2.l1 K x179 ((Kd.nth (.slice (.int .i64)) p3 0).length : Int) (p3.length : Int) p0 p1 p2 p3 n s.1 s.2.1 s.2.2 = some z2) (fun s=>[(0,.p 0 0),(1,.fn 189 [.p 1 0,.p 2 0]),(4,.int .i64 x179),(12,.int .i64 ((Kd.nth (.slice (.int .i64)) p3 0).length : Int)),(13,.int .i64 x179),(20,.int .i64 (p3.length : Int)),(21,.int .i64 s.1)]) (fun s=>[(0,some (.cells [.int .i64 p0,.int .i64 p1,.int .i64 p2,.im (.slice (.slice (.int .i64))) p3,.sl 3])),(1,some (.cells [.p 0 0])),(2,some (.cells [.int .i64 s.2.1])),(3,some (.rr true (.int .i64) s.2.2 none))]) K ?_ ?_
    ·exact SP_ren [] (_,_,_) h2 ⟨rfl,rfl,rfl,rfl,rfl,rfl,rfl,tv⟩ ⟨rfl,rfl,rfl,rfl,tv⟩ rfl
    rintro n ⟨x255,x256,x257⟩ h2
    rcases n with _ | n
    ·exact (nsome h2).elim
    replace h2 : alloc_sharing_each_2.r1 K x179 ((Kd.nth (.slice (.int .i64)) p3 0).length : Int) (p3.length : Int) p0 p1 p2 p3 (alloc_sharing_each_2.l1 K x179 ((Kd.nth (.slice (.int .i64)) p3 0).length : Int) (p3.length : Int) p0 p1 p2 p3 n) x255 x256 x257 = some z2:=h2
    refine zr ?_
    refine zv 1 rfl ⟨⟨tv,tv,tv⟩,tv⟩ ?_
    refine ze ?_
    refine TC_seq ?_
    refine TC_cond rfl (fun hb=>?_) (fun hb=>?_)
    ·replace h2:=bif_t h2 hb
     refine TC_skip ?_
     refine TE_go ?_
     refine TC_seq ?_
     refine TC_blk ?_
     refine zr ?_
     refine zv 2 rfl ⟨tv,tv,tv⟩ ?_
     refine ze ?_
     refine TC_seq ?_
     refine TC_renw (A':=[(0,.p 0 0),(1,.fn 189 [.p 1 0,.p 2 0]),(4,.int .i64 _),(5,.int .i64 _),(12,.int .i64 _),(13,.int .i64 _),(20,.int .i64 _),(21,.int .i64 _)]) (L':=[(0,some (.cells [.int .i64 _,.int .i64 _,.int .i64 _,.im (.slice (.slice (.int .i64))) _,.sl 3])),(1,some (.cells [.p 0 0])),(2,some (.cells [.int .i64 _])),(3,some (.rr true (.int .i64) _ none))]) [] ⟨rfl,rfl,rfl,rfl,rfl,rfl,rfl,rfl,tv⟩ ⟨rfl,rfl,rfl,rfl,tv⟩ rfl ?_
     refine zd [[],[],[1],[2,1],[3,2,1],[],[5,4,3,2,1],[6,5,4,3,2,1],[],[8,7,6,5,4,3,2,1],[9,8,7,6,5,4,3,2,1],[],[11],[12,11],[13,12,11],[],[15,14,13,12,11],[16,15,14,13,12,11],[],[18,17,16,15,14,13,12,11],[19,18,17,16,15,14,13,12,11,10,9,8,7,6,5,4,3,2,1,0],[20,19,18,17,16,15,14,13,12,11,10,9,8,7,6,5,4,3,2,1,0]] [[],[],[],[],[],[],[],[],[],[],[],[],[],[],[],[],[],[3,1041],[],[],[0,1,2,3,1041],[]] [[],[],[],[],[],[],[],[],[],[],[],[],[],[],[],[],[],[1041],[],[],[],[]] [[3,1041],[3,1041],[3,1041],[3,1041],[3,1041],[3,1041],[3,1041],[3,1041],[3,1041],[3,1041],[3,1041],[],[],[],[],[],[],[],[3,1041],[],[],[]] (by kernel_rfl) (by kernel_rfl) ?_
     refine zj 1 rfl rfl rfl tv ?_
     refine zj 2 rfl rfl rfl tv ?_
     refine zj 3 rfl rfl rfl tv ?_
     refine zj 4 rfl rfl rfl tv ?_
     refine zj 5 rfl rfl rfl ⟨tv,tv⟩ ?_
     refine zj 6 rfl rfl rfl tv ?_
     obtain ⟨g,h2⟩:=gd_t h2
     refine zj 7 rfl rfl rfl ⟨tv,tv,g.1,g.2⟩ ?_
     refine zj 8 rfl rfl rfl ⟨tv,tv⟩ ?_
     refine zj 9 rfl rfl rfl tv ?_
     obtain ⟨g,h2⟩:=gd_t h2
     refine zj 10 rfl rfl rfl ⟨tv,tv,g.1,g.2⟩ ?_
     refine zj 11 rfl rfl rfl ⟨tv,tv⟩ ?_
     refine zj 12 rfl rfl rfl tv ?_
     refine zj 13 rfl rfl rfl tv ?_
     refine zj 14 rfl rfl rfl tv ?_
     refine zj 15 rfl rfl rfl ⟨tv,tv⟩ ?_
     refine zj 16 rfl rfl rfl tv ?_
     obtain ⟨g,h2⟩:=gd_t h2
     refine zj 17 rfl rfl rfl ⟨tv,tv,g.1,g.2⟩ ?_
     obtain ⟨g,h2⟩:=gd_t h2
     refine zj 18 rfl rfl rfl ⟨tv,g⟩ ?_
     refine zj 19 rfl rfl rfl tv ?_
     obtain ⟨g,h2⟩:=gd_t h2
     refine zj 20 rfl rfl rfl ⟨tv,tv,g.1,g.2⟩ ?_
     obtain ⟨⟨r271,r272⟩,hr,h2⟩:=bnd h2
     refine AJR_call 21 rfl (Nat.le_of_ble_eq_true rfl) [(0,1041),(1,1),(2,2),(3,0),(4,3)] rfl (alloc_sharing_costs_1.ok0 hr) alloc_sharing_costs_1.fnb rfl ⟨tv,⟨tv,⟨tv,tv⟩⟩⟩ rfl ⟨.inr rfl,.inr rfl,.inr rfl,.inr rfl,.inr rfl,tv⟩ rfl ?_
     refine zj 22 rfl rfl rfl tv ?_
     refine AJR_end rfl rfl rfl ?_
     refine TE_go ?_
     refine TC_cond rfl (fun hb=>?_) (fun hb=>?_)
     ·first | exact (ftf hb).elim | exact (tff hb).elim | exact absurd hb (by decide)
     ·refine TC_skip ?_
      refine tbn ?_
      refine zt ?_
      refine zv 2 rfl ⟨⟨tv,tv,tv⟩,tv,tv⟩ ?_
      refine zm ?_
      exact TE_nextr [] n (zs n) (_,_,_) h2 ⟨rfl,rfl,rfl,rfl,rfl,rfl,rfl,tv⟩ ⟨rfl,rfl,rfl,rfl,tv⟩ rfl
    ·replace h2:=bif_f h2 hb
     refine TC_exit ?_
     refine tsx ?_
     refine tsx ?_
     refine tbe ?_
     obtain rfl:=sinj h2
     refine tsn ?_
     exact SP_ren [] (_,_) rfl ⟨rfl,rfl,rfl,rfl,tv⟩ ⟨rfl,rfl,rfl,rfl,tv⟩ rfl
   ·rintro ⟨x248,x249⟩ rfl
    refine tbn ?_
    refine zt ?_
    refine zv 2 rfl ⟨⟨tv,tv,tv⟩,tv,tv⟩ ?_
    refine zm ?_
    exact TE_nextr [] n (zs n) (_,_,_) h1 ⟨rfl,rfl,rfl,rfl,tv⟩ ⟨rfl,rfl,rfl,rfl,tv⟩ rfl
  ·replace h1:=bif_f h1 hb
   refine TC_exit ?_
   refine tsx ?_
   refine tsx ?_
   refine tbe ?_
   obtain rfl:=sinj h1
   refine tsn ?_
   exact SP_ren [] (_,_) rfl tv ⟨rfl,rfl,rfl,rfl,tv⟩ rfl
 ·rintro ⟨x145,x146⟩ rfl
  obtain rfl:=sinj h0
  exact TE_end env rfl tv ⟨.inr rfl,.inr rfl,.inr rfl,.inr rfl,tv⟩
theorem alloc_sharing_each_2.ok0 {K : Nat} {p0 p1 p2 : Int} {p3 : List (List Int)} {p4 : Int} {p5 : List (List Int)} {q0 : Int} {q1 : List (List Int)} (h0 : alloc_sharing_each_2 K p0 p1 p2 p3 p4 p5 = some (q0,q1)) : Fn Tryz.prog 114 [.p 0 0,.fn 189 [.p 1 0,.p 2 0]] [(0,some (.cells [.int .i64 p0,.int .i64 p1,.int .i64 p2,.im (.slice (.slice (.int .i64))) p3,.sl 3])),(1,some (.cells [.p 0 0])),(2,some (.cells [.int .i64 p4])),(3,some (.rr true (.int .i64) p5 none))] (.tup []) [(0,some (.cells [.int .i64 p0,.int .i64 p1,.int .i64 p2,.im (.slice (.slice (.int .i64))) p3,.sl 3])),(1,some (.cells [.p 0 0])),(2,some (.cells [.int .i64 q0])),(3,some (.rr true (.int .i64) q1 none))]:=alloc_sharing_each_2.ok h0
theorem alloc_sharing_each_2.fnb : fnb Tryz.prog 114 = true:=fnb_of Tryz.func114 rfl
def alloc_sharing_costs.res (_p0 _p1 _p2 : Int) (_p3 _p4 : List (List Int)) : Int × (List (List Int)) → MV
 | (q0,_)=>.int .i64 q0
def alloc_sharing_costs.out (p0 p1 p2 : Int) (p3 _p4 : List (List Int)) : Int × (List (List Int)) → List (Nat × Option MObj)
 | (_,q1)=>[(0,some (.cells [.int .i64 p0,.int .i64 p1,.int .i64 p2,.im (.slice (.slice (.int .i64))) p3,.sl 1])),(1,some (.rr true (.int .i64) q1 none))]
theorem alloc_sharing_costs.ok {K : Nat} {p0 p1 p2 : Int} {p3 p4 : List (List Int)} {r : Int × (List (List Int))} (h0 : alloc_sharing_costs K p0 p1 p2 p3 p4 = some r) : Fn Tryz.prog 165 [.p 0 0] [(0,some (.cells [.int .i64 p0,.int .i64 p1,.int .i64 p2,.im (.slice (.slice (.int .i64))) p3,.sl 1])),(1,some (.rr true (.int .i64) p4 none))] (alloc_sharing_costs.res p0 p1 p2 p3 p4 r) (alloc_sharing_costs.out p0 p1 p2 p3 p4 r):=by
 refine Fn_of Tryz.func165 rfl (Nat.le_of_ble_eq_true rfl) fun Γ=>?_
 refine zr ?_
 refine zv 2 rfl ⟨tv,tv,tv⟩ ?_
 refine zn ?_
 refine zv 2 rfl ⟨tv,⟨tv,tv⟩,tv⟩ ?_
 refine zn ?_
 refine zv 2 rfl ⟨⟨tv,tv⟩,⟨tv,tv,tv⟩,tv⟩ ?_
 obtain ⟨⟨r3,r4⟩,hr,h0⟩:=bnd h0
 refine TL_callB [(0,0),(1,1001),(2,1003),(3,1)] (alloc_sharing_each_2.ok0 hr) alloc_sharing_each_2.fnb rfl ⟨tv,⟨tv,⟨tv,tv⟩⟩⟩ rfl ⟨.inr rfl,.inr rfl,.inr rfl,.inr rfl,tv⟩ rfl ?_
 refine zn ?_
 refine zv 2 rfl ⟨⟨tv,tv⟩,tv,tv⟩ ?_
 refine ze ?_
 refine TC_ret ?_
 obtain rfl:=sinj h0
 exact TE_ret env rfl tv ⟨.inr rfl,.inr rfl,tv⟩
theorem alloc_sharing_costs.ok0 {K : Nat} {p0 p1 p2 : Int} {p3 p4 : List (List Int)} {q0 : Int} {q1 : List (List Int)} (h0 : alloc_sharing_costs K p0 p1 p2 p3 p4 = some (q0,q1)) : Fn Tryz.prog 165 [.p 0 0] [(0,some (.cells [.int .i64 p0,.int .i64 p1,.int .i64 p2,.im (.slice (.slice (.int .i64))) p3,.sl 1])),(1,some (.rr true (.int .i64) p4 none))] (.int .i64 q0) [(0,some (.cells [.int .i64 p0,.int .i64 p1,.int .i64 p2,.im (.slice (.slice (.int .i64))) p3,.sl 1])),(1,some (.rr true (.int .i64) q1 none))]:=alloc_sharing_costs.ok h0
theorem alloc_sharing_costs.fnb : fnb Tryz.prog 165 = true:=fnb_of Tryz.func165 rfl
def alloc_sharing_cut.res (_p0 _p1 _p2 : Int) (_p3 _p4 : List (List Int)) : Int × Int × (List (List Int)) → MV
 | (_,_,_)=>.tup []
def alloc_sharing_cut.out (p0 _p1 _p2 : Int) (p3 _p4 : List (List Int)) : Int × Int × (List (List Int)) → List (Nat × Option MObj)
 | (q0,q1,q2)=>[(0,some (.cells [.int .i64 p0,.int .i64 q0,.int .i64 q1,.im (.slice (.slice (.int .i64))) p3,.sl 1])),(1,some (.rr true (.int .i64) q2 none))]
theorem alloc_sharing_cut.ok {K : Nat} {p0 p1 p2 : Int} {p3 p4 : List (List Int)} {r : Int × Int × (List (List Int))} (h0 : alloc_sharing_cut K p0 p1 p2 p3 p4 = some r) : Fn Tryz.prog 113 [.p 0 0] [(0,some (.cells [.int .i64 p0,.int .i64 p1,.int .i64 p2,.im (.slice (.slice (.int .i64))) p3,.sl 1])),(1,some (.rr true (.int .i64) p4 none))] (alloc_sharing_cut.res p0 p1 p2 p3 p4 r) (alloc_sharing_cut.out p0 p1 p2 p3 p4 r):=by
 refine Fn_of Tryz.func113 rfl (Nat.le_of_ble_eq_true rfl) fun Γ=>?_
 refine zr ?_
 refine zv 1 rfl ⟨tv,tv⟩ ?_
 refine zn ?_
 refine zv 2 rfl ⟨⟨tv,tv⟩,⟨tv,tv⟩,tv⟩ ?_
 obtain ⟨⟨r21,r22⟩,hr,h0⟩:=bnd h0
 refine TL_callB [(0,0),(1,1001),(2,1)] (alloc_sharing_each.ok0 hr) alloc_sharing_each.fnb rfl ⟨tv,⟨tv,⟨tv,tv⟩⟩⟩ rfl ⟨.inr rfl,.inr rfl,.inr rfl,tv⟩ rfl ?_
 refine zn ?_
 refine zv 1 rfl ⟨⟨tv,tv⟩,tv⟩ ?_
 obtain ⟨⟨r23,r24⟩,hr,h0⟩:=bnd h0
 refine TL_callB [(0,0),(1,1)] (alloc_sharing_costs.ok0 hr) alloc_sharing_costs.fnb rfl ⟨tv,⟨tv,tv⟩⟩ rfl ⟨.inr rfl,.inr rfl,tv⟩ rfl ?_
 refine zv 1 rfl ⟨tv,tv⟩ ?_
 refine ze ?_
 refine TC_seq ?_
 obtain ⟨z1,h1,h0⟩:=bnd h0
 refine TC_cut (α:=Int × Int × Int × (List (List Int))) (fun s=>z1 = s) (fun s=>[(1,.p 10802 0),(2,.int .i64 s.1)]) (fun s=>[(0,some (.cells [.int .i64 p0,.int .i64 s.2.1,.int .i64 s.2.2.1,.im (.slice (.slice (.int .i64))) p3,.sl 1])),(1,some (.rr true (.int .i64) s.2.2.2 none)),(10802,some (.cells [.p 0 0]))]) ?_ ?_
 ·refine TC_blk ?_
  refine TC_loop (α:=Int × Int × Int × (List (List Int))) (fun n s=>alloc_sharing_cut.l0 K p0 p3 n s.1 s.2.1 s.2.2.1 s.2.2.2 = some z1) (fun s=>[(1,.p 11002 0),(2,.int .i64 s.1)]) (fun s=>[(0,some (.cells [.int .i64 p0,.int .i64 s.2.1,.int .i64 s.2.2.1,.im (.slice (.slice (.int .i64))) p3,.sl 1])),(1,some (.rr true (.int .i64) s.2.2.2 none)),(11002,some (.cells [.p 0 0]))]) K ?_ ?_
  ·exact SP_ren [(11002,1001)] (_,_,_,_) h1 ⟨rfl,rfl,tv⟩ ⟨rfl,rfl,rfl,tv⟩ rfl
  rintro n ⟨x45,x46,x47,x48⟩ h1
  rcases n with _ | n
  ·exact (nsome h1).elim
  replace h1 : alloc_sharing_cut.r0 K p0 p3 (alloc_sharing_cut.l0 K p0 p3 n) x45 x46 x47 x48 = some z1:=h1
  refine TC_seq ?_
  refine TC_seq ?_
  refine TC_renw (A':=[(1,.p 11002 0),(2,.int .i64 _)]) (L':=[(0,some (.cells [.int .i64 _,.int .i64 _,.int .i64 _,.im (.slice (.slice (.int .i64))) _,.sl 1])),(1,some (.rr true (.int .i64) _ none)),(11002,some (.cells [.p 0 0]))]) [] ⟨rfl,rfl,tv⟩ ⟨rfl,rfl,rfl,tv⟩ rfl ?_
  refine zd [[],[0],[1,0],[2,1,0],[],[4,3,2,1,0],[],[6],[7,6],[8,7,6],[9,8,7,6,5,4,3,2,1,0]] [[],[],[],[],[],[],[],[],[],[],[]] [[],[],[],[],[],[],[],[],[],[],[]] [[],[],[],[],[],[],[],[],[],[],[]] (by kernel_rfl) (by kernel_rfl) ?_
  refine zj 1 rfl rfl rfl ⟨tv,tv⟩ ?_
  refine zj 2 rfl rfl rfl tv ?_
  refine zj 3 rfl rfl rfl tv ?_
  refine zj 4 rfl rfl rfl ⟨tv,tv⟩ ?_
  refine zj 5 rfl rfl rfl tv ?_
  refine zj 6 rfl rfl rfl ⟨tv,tv,tv⟩ ?_
  refine zj 7 rfl rfl rfl ⟨tv,tv⟩ ?_
  refine zj 8 rfl rfl rfl tv ?_
  refine zj 9 rfl rfl rfl tv ?_
  refine zj 10 rfl rfl rfl ⟨tv,tv⟩ ?_
  refine zj 11 rfl rfl rfl ⟨tv,tv,tv⟩ ?_
  refine AJR_end rfl rfl rfl ?_
  refine TE_go ?_
  refine TC_cond rfl (fun hb=>?_) (fun hb=>?_)
  ·replace h1:=bif_t h1 hb
   refine TC_skip ?_
   refine TE_go ?_
   refine TC_blk ?_
   refine zr ?_
   refine zv 9 rfl ⟨⟨tv,tv⟩,tv,tv,⟨tv,tv⟩,tv,⟨tv,tv,tv⟩,tv,tv,⟨tv,tv⟩,tv⟩ ?_
   refine zn ?_
   refine zv 8 rfl ⟨⟨tv,tv⟩,tv,tv,⟨tv,tv⟩,⟨tv,tv,tv⟩,tv,tv,⟨tv,tv⟩,tv⟩ ?_
   refine ze ?_
   refine TC_reg ?_
   refine zv 1 rfl ⟨⟨tv,tv⟩,tv⟩ ?_
   obtain ⟨⟨r58,r59⟩,hr,h1⟩:=bnd h1
   refine TL_callB [(0,0),(1,1)] (alloc_sharing_costs.ok0 hr) alloc_sharing_costs.fnb rfl ⟨tv,⟨tv,tv⟩⟩ rfl ⟨.inr rfl,.inr rfl,tv⟩ rfl ?_
   refine zv 1 rfl ⟨tv,tv⟩ ?_
   refine TL_end ?_
   refine tbn ?_
   refine tsn ?_
   exact TE_nextr [(11002,11002)] n (zs n) (_,_,_,_) h1 ⟨rfl,rfl,tv⟩ ⟨rfl,rfl,rfl,tv⟩ rfl
  ·replace h1:=bif_f h1 hb
   refine TC_exit ?_
   refine tsx ?_
   refine tsx ?_
   refine tbe ?_
   obtain rfl:=sinj h1
   refine tsn ?_
   exact SP_ren [(10802,11002)] (_,_,_,_) rfl ⟨rfl,rfl,tv⟩ ⟨rfl,rfl,rfl,tv⟩ rfl
 ·rintro ⟨x37,x38,x39,x40⟩ rfl
  refine TE_go ?_
  refine TC_seq ?_
  refine TC_renw (A':=[(1,.p 10802 0),(2,.int .i64 _)]) (L':=[(0,some (.cells [.int .i64 _,.int .i64 _,.int .i64 _,.im (.slice (.slice (.int .i64))) _,.sl 1])),(1,some (.rr true (.int .i64) _ none)),(10802,some (.cells [.p 0 0]))]) [] ⟨rfl,rfl,tv⟩ ⟨rfl,rfl,rfl,tv⟩ rfl ?_
  refine zd [[],[0],[1,0],[2,1,0],[],[4,3,2,1,0],[],[6],[7,6],[8,7,6],[9,8,7,6,5,4,3,2,1,0]] [[],[],[],[],[],[],[],[],[],[],[]] [[],[],[],[],[],[],[],[],[],[],[]] [[],[],[],[],[],[],[],[],[],[],[]] (by kernel_rfl) (by kernel_rfl) ?_
  refine zj 1 rfl rfl rfl ⟨tv,tv⟩ ?_
  refine zj 2 rfl rfl rfl tv ?_
  refine zj 3 rfl rfl rfl tv ?_
  refine zj 4 rfl rfl rfl ⟨tv,tv⟩ ?_
  refine zj 5 rfl rfl rfl tv ?_
  refine zj 6 rfl rfl rfl ⟨tv,tv,tv⟩ ?_
  refine zj 7 rfl rfl rfl ⟨tv,tv⟩ ?_
  refine zj 8 rfl rfl rfl tv ?_
  refine zj 9 rfl rfl rfl tv ?_
  refine zj 10 rfl rfl rfl ⟨tv,tv⟩ ?_
  refine zj 11 rfl rfl rfl ⟨tv,tv,tv⟩ ?_
  refine AJR_end rfl rfl rfl ?_
  refine TE_go ?_
  refine TC_cond rfl (fun hb=>?_) (fun hb=>?_)
  ·replace h0:=bif_t h0 hb
   refine zr ?_
   refine zv 9 rfl ⟨⟨tv,tv⟩,tv,tv,⟨tv,tv⟩,tv,⟨tv,tv,tv⟩,tv,tv,⟨tv,tv⟩,tv⟩ ?_
   refine ze ?_
   refine TC_reg ?_
   refine zv 8 rfl ⟨⟨tv,tv⟩,tv,tv,⟨tv,tv⟩,⟨tv,tv,tv⟩,tv,tv,⟨tv,tv⟩,tv⟩ ?_
   refine TL_end ?_
   obtain rfl:=sinj h0
   exact TE_end env rfl tv ⟨.inr rfl,.inr rfl,tv⟩
  ·replace h0:=bif_f h0 hb
   refine TC_skip ?_
   obtain rfl:=sinj h0
   exact TE_end env rfl tv ⟨.inr rfl,.inr rfl,tv⟩
theorem alloc_sharing_cut.ok0 {K : Nat} {p0 p1 p2 : Int} {p3 p4 : List (List Int)} {q0 q1 : Int} {q2 : List (List Int)} (h0 : alloc_sharing_cut K p0 p1 p2 p3 p4 = some (q0,q1,q2)) : Fn Tryz.prog 113 [.p 0 0] [(0,some (.cells [.int .i64 p0,.int .i64 p1,.int .i64 p2,.im (.slice (.slice (.int .i64))) p3,.sl 1])),(1,some (.rr true (.int .i64) p4 none))] (.tup []) [(0,some (.cells [.int .i64 p0,.int .i64 q0,.int .i64 q1,.im (.slice (.slice (.int .i64))) p3,.sl 1])),(1,some (.rr true (.int .i64) q2 none))]:=alloc_sharing_cut.ok h0
theorem alloc_sharing_cut.fnb : fnb Tryz.prog 113 = true:=fnb_of Tryz.func113 rfl
def alloc_Share_1.res (_p0 : Int) (_p1 : Nat) (_p2 : List Int) (_p3 _p4 _p5 : Int) (_p6 _p7 : List (List Int)) (_p8 : Nat) : (List (List Int)) → MV
 | _=>.bool true
def alloc_Share_1.out (_p0 : Int) (_p1 : Nat) (_p2 : List Int) (p3 p4 p5 : Int) (p6 _p7 : List (List Int)) (_p8 : Nat) : (List (List Int)) → List (Nat × Option MObj)
 | q0=>[(0,none),(1,some (.cells [.p 2 0])),(2,some (.cells [.int .i64 p3,.int .i64 p4,.int .i64 p5,.im (.slice (.slice (.int .i64))) p6,.sl 3])),(3,some (.rr true (.int .i64) q0 none))]
theorem alloc_Share_1.ok {K : Nat} {p0 : Int} {p1 : Nat} {p2 : List Int} {p3 p4 p5 : Int} {p6 p7 : List (List Int)} {p8 : Nat} {r : (List (List Int))} (h0 : alloc_Share_1 K p0 p1 p2 p3 p4 p5 p6 p7 p8 = some r) : Fn Tryz.prog 115 [.int .i64 p0,.pe 0 p1 0,.p 1 0] [(0,some (.rows (.int .i64) p2)),(1,some (.cells [.p 2 0])),(2,some (.cells [.int .i64 p3,.int .i64 p4,.int .i64 p5,.im (.slice (.slice (.int .i64))) p6,.sl 3])),(3,some (.rr true (.int .i64) p7 (some (p8,.sl 0))))] (alloc_Share_1.res p0 p1 p2 p3 p4 p5 p6 p7 p8 r) (alloc_Share_1.out p0 p1 p2 p3 p4 p5 p6 p7 p8 r):=by
 refine Fn_of Tryz.func115 rfl (Nat.le_of_ble_eq_true rfl) fun Γ=>?_
 refine zr ?_
 refine zv 1 rfl ⟨tv,tv⟩ ?_
 refine ze ?_
 refine TC_seq ?_
 refine zr ?_
 refine zv 7 rfl ⟨tv,⟨tv,tv⟩,tv,tv,⟨tv,tv⟩,⟨tv,tv,tv⟩,⟨tv,tv,tv⟩,tv⟩ ?_
 refine ze ?_
 obtain ⟨z1,h1,h0⟩:=bnd h0
 refine TC_cut (α:=(List (List Int))) (fun s=>z1 = s) (fun s=>[]) (fun s=>[(1,some (.cells [.p 2 0])),(2,some (.cells [.int .i64 p3,.int .i64 p4,.int .i64 p5,.im (.slice (.slice (.int .i64))) p6,.sl 3])),(3,some (.rr true (.int .i64) s none))]) ?_ ?_
 ·refine TC_cond rfl (fun hb=>?_) (fun hb=>?_)
  ·replace h1:=bif_t h1 hb
   refine TC_reg ?_
   obtain ⟨g,h1⟩:=gd_t h1
   refine zv 10 rfl ⟨tv,tv,⟨tv,tv⟩,tv,tv,⟨tv,tv⟩,⟨tv,tv,tv⟩,⟨tv,tv,tv⟩,tv,⟨tv,tv,g⟩,tv⟩ ?_
   refine TL_end ?_
   obtain rfl:=sinj h1
   refine tsn ?_
   refine TE_putb 3 0 rfl rfl ?_
   exact SP_ren [] _ rfl tv ⟨rfl,rfl,rfl,tv⟩ rfl
  ·replace h1:=bif_f h1 hb
   refine TC_skip ?_
   obtain rfl:=sinj h1
   refine tsn ?_
   refine TE_putb 3 0 rfl rfl ?_
   exact SP_ren [] _ rfl tv ⟨rfl,rfl,rfl,tv⟩ rfl
 ·rintro x4 hz
  obtain rfl:=hz.symm
  refine zg ?_
  refine zv 1 rfl ⟨tv,tv⟩ ?_
  refine ze ?_
  refine TC_ret ?_
  obtain rfl:=sinj h0
  exact TE_ret env rfl tv ⟨.inl rfl,.inr rfl,.inr rfl,.inr rfl,tv⟩
theorem alloc_Share_1.ok0 {K : Nat} {p0 : Int} {p1 : Nat} {p2 : List Int} {p3 p4 p5 : Int} {p6 p7 : List (List Int)} {p8 : Nat} {q0 : List (List Int)} (h0 : alloc_Share_1 K p0 p1 p2 p3 p4 p5 p6 p7 p8 = some q0) : Fn Tryz.prog 115 [.int .i64 p0,.pe 0 p1 0,.p 1 0] [(0,some (.rows (.int .i64) p2)),(1,some (.cells [.p 2 0])),(2,some (.cells [.int .i64 p3,.int .i64 p4,.int .i64 p5,.im (.slice (.slice (.int .i64))) p6,.sl 3])),(3,some (.rr true (.int .i64) p7 (some (p8,.sl 0))))] (.bool true) [(0,none),(1,some (.cells [.p 2 0])),(2,some (.cells [.int .i64 p3,.int .i64 p4,.int .i64 p5,.im (.slice (.slice (.int .i64))) p6,.sl 3])),(3,some (.rr true (.int .i64) q0 none))]:=alloc_Share_1.ok h0
theorem alloc_Share_1.fnb : fnb Tryz.prog 115 = true:=fnb_of Tryz.func115 rfl
def alloc_sharing_each_3.res (_p0 _p1 _p2 : Int) (_p3 _p4 : List (List Int)) : (List (List Int)) → MV
 | _=>.tup []
def alloc_sharing_each_3.out (p0 p1 p2 : Int) (p3 _p4 : List (List Int)) : (List (List Int)) → List (Nat × Option MObj)
 | q0=>[(0,some (.cells [.int .i64 p0,.int .i64 p1,.int .i64 p2,.im (.slice (.slice (.int .i64))) p3,.sl 2])),(1,some (.cells [.p 0 0])),(2,some (.rr true (.int .i64) q0 none))]
theorem alloc_sharing_each_3.ok {K : Nat} {p0 p1 p2 : Int} {p3 p4 : List (List Int)} {r : (List (List Int))} (h0 : alloc_sharing_each_3 K p0 p1 p2 p3 p4 = some r) : Fn Tryz.prog 114 [.p 0 0,.fn 115 [.p 1 0]] [(0,some (.cells [.int .i64 p0,.int .i64 p1,.int .i64 p2,.im (.slice (.slice (.int .i64))) p3,.sl 2])),(1,some (.cells [.p 0 0])),(2,some (.rr true (.int .i64) p4 none))] (alloc_sharing_each_3.res p0 p1 p2 p3 p4 r) (alloc_sharing_each_3.out p0 p1 p2 p3 p4 r):=by
 refine Fn_of Tryz.func114 rfl (Nat.le_of_ble_eq_true rfl) fun Γ=>?_
 refine zr ?_
 obtain ⟨g,h0⟩:=gd_t h0
 refine zv 8 rfl ⟨tv,tv,tv,⟨tv,tv⟩,⟨tv,tv,(by decide),g⟩,⟨tv,tv⟩,⟨tv,tv⟩,tv,tv⟩ ?_
 refine ze ?_
 obtain ⟨z1,h1,h0⟩:=bnd h0
 refine TC_cut (α:=(List (List Int))) (fun s=>z1 = s) (fun s=>[]) (fun s=>[(0,some (.cells [.int .i64 p0,.int .i64 p1,.int .i64 p2,.im (.slice (.slice (.int .i64))) p3,.sl 2])),(1,some (.cells [.p 0 0])),(2,some (.rr true (.int .i64) s none))]) ?_ ?_
 ·refine TC_blk ?_
  refine TC_loop (α:=Int × (List (List Int))) (fun n s=>alloc_sharing_each_3.l0 K ((Kd.nth (.slice (.int .i64)) p3 0).length : Int) p0 p1 p2 p3 n s.1 s.2 = some z1) (fun s=>[(0,.p 0 0),(1,.fn 115 [.p 1 0]),(12,.int .i64 ((Kd.nth (.slice (.int .i64)) p3 0).length : Int)),(13,.int .i64 s.1)]) (fun s=>[(0,some (.cells [.int .i64 p0,.int .i64 p1,.int .i64 p2,.im (.slice (.slice (.int .i64))) p3,.sl 2])),(1,some (.cells [.p 0 0])),(2,some (.rr true (.int .i64) s.2 none))]) K ?_ ?_
  ·exact SP_ren [] (_,_) h1 ⟨rfl,rfl,rfl,rfl,tv⟩ ⟨rfl,rfl,rfl,tv⟩ rfl
  rintro n ⟨x103,x104⟩ h1
  rcases n with _ | n
  ·exact (nsome h1).elim
  replace h1 : alloc_sharing_each_3.r0 K ((Kd.nth (.slice (.int .i64)) p3 0).length : Int) p0 p1 p2 p3 (alloc_sharing_each_3.l0 K ((Kd.nth (.slice (.int .i64)) p3 0).length : Int) p0 p1 p2 p3 n) x103 x104 = some z1:=h1
  refine zr ?_
  refine zv 1 rfl ⟨⟨tv,tv,tv⟩,tv⟩ ?_
  refine ze ?_
  refine TC_seq ?_
  refine TC_cond rfl (fun hb=>?_) (fun hb=>?_)
  ·replace h1:=bif_t h1 hb
   refine TC_skip ?_
   refine TE_go ?_
   refine TC_seq ?_
   refine TC_blk ?_
   refine zr ?_
   refine zv 2 rfl ⟨tv,tv,tv⟩ ?_
   refine zn ?_
   refine zv 6 rfl ⟨tv,tv,tv,⟨tv,tv⟩,⟨tv,tv⟩,tv,tv⟩ ?_
   refine ze ?_
   obtain ⟨z2,h2,h1⟩:=bnd h1
   refine TC_cut (α:=(List (List Int))) (fun s=>z2 = s) (fun s=>[(0,.p 0 0),(1,.fn 115 [.p 1 0]),(12,.int .i64 ((Kd.nth (.slice (.int .i64)) p3 0).length : Int)),(13,.int .i64 x103)]) (fun s=>[(0,some (.cells [.int .i64 p0,.int .i64 p1,.int .i64 p2,.im (.slice (.slice (.int .i64))) p3,.sl 2])),(1,some (.cells [.p 0 0])),(2,some (.rr true (.int .i64) s none))]) ?_ ?_
   ·refine TC_blk ?_
    refine TC_loop (α:=Int × (List (List Int))) (fun n s=>alloc_sharing_each_3.l1 K x103 ((Kd.nth (.slice (.int .i64)) p3 0).length : Int) (p3.length : Int) p0 p1 p2 p3 n s.1 s.2 = some z2) (fun s=>[(0,.p 0 0),(1,.fn 115 [.p 1 0]),(4,.int .i64 x103),(12,.int .i64 ((Kd.nth (.slice (.int .i64)) p3 0).length : Int)),(13,.int .i64 x103),(20,.int .i64 (p3.length : Int)),(21,.int .i64 s.1)]) (fun s=>[(0,some (.cells [.int .i64 p0,.int .i64 p1,.int .i64 p2,.im (.slice (.slice (.int .i64))) p3,.sl 2])),(1,some (.cells [.p 0 0])),(2,some (.rr true (.int .i64) s.2 none))]) K ?_ ?_
    ·exact SP_ren [] (_,_) h2 ⟨rfl,rfl,rfl,rfl,rfl,rfl,rfl,tv⟩ ⟨rfl,rfl,rfl,tv⟩ rfl
    rintro n ⟨x147,x148⟩ h2
    rcases n with _ | n
    ·exact (nsome h2).elim
    replace h2 : alloc_sharing_each_3.r1 K x103 ((Kd.nth (.slice (.int .i64)) p3 0).length : Int) (p3.length : Int) p0 p1 p2 p3 (alloc_sharing_each_3.l1 K x103 ((Kd.nth (.slice (.int .i64)) p3 0).length : Int) (p3.length : Int) p0 p1 p2 p3 n) x147 x148 = some z2:=h2
    refine zr ?_
    refine zv 1 rfl ⟨⟨tv,tv,tv⟩,tv⟩ ?_
    refine ze ?_
    refine TC_seq ?_
    refine TC_cond rfl (fun hb=>?_) (fun hb=>?_)
    ·replace h2:=bif_t h2 hb
     refine TC_skip ?_
     refine TE_go ?_
     refine TC_seq ?_
     refine TC_blk ?_
     refine zr ?_
     refine zv 2 rfl ⟨tv,tv,tv⟩ ?_
     refine ze ?_
     refine TC_seq ?_
     refine TC_renw (A':=[(0,.p 0 0),(1,.fn 115 [.p 1 0]),(4,.int .i64 _),(5,.int .i64 _),(12,.int .i64 _),(13,.int .i64 _),(20,.int .i64 _),(21,.int .i64 _)]) (L':=[(0,some (.cells [.int .i64 _,.int .i64 _,.int .i64 _,.im (.slice (.slice (.int .i64))) _,.sl 2])),(1,some (.cells [.p 0 0])),(2,some (.rr true (.int .i64) _ none))]) [] ⟨rfl,rfl,rfl,rfl,rfl,rfl,rfl,rfl,tv⟩ ⟨rfl,rfl,rfl,tv⟩ rfl ?_
     refine zd [[],[],[1],[2,1],[3,2,1],[],[5,4,3,2,1],[6,5,4,3,2,1],[],[8,7,6,5,4,3,2,1],[9,8,7,6,5,4,3,2,1],[],[11],[12,11],[13,12,11],[],[15,14,13,12,11],[16,15,14,13,12,11],[],[18,17,16,15,14,13,12,11],[19,18,17,16,15,14,13,12,11,10,9,8,7,6,5,4,3,2,1,0],[20,19,18,17,16,15,14,13,12,11,10,9,8,7,6,5,4,3,2,1,0]] [[],[],[],[],[],[],[],[],[],[],[],[],[],[],[],[],[],[2,1041],[],[],[0,1,2,1041],[]] [[],[],[],[],[],[],[],[],[],[],[],[],[],[],[],[],[],[1041],[],[],[],[]] [[2,1041],[2,1041],[2,1041],[2,1041],[2,1041],[2,1041],[2,1041],[2,1041],[2,1041],[2,1041],[2,1041],[],[],[],[],[],[],[],[2,1041],[],[],[]] (by kernel_rfl) (by kernel_rfl) ?_
     refine zj 1 rfl rfl rfl tv ?_
     refine zj 2 rfl rfl rfl tv ?_
     refine zj 3 rfl rfl rfl tv ?_
     refine zj 4 rfl rfl rfl tv ?_
     refine zj 5 rfl rfl rfl ⟨tv,tv⟩ ?_
     refine zj 6 rfl rfl rfl tv ?_
     obtain ⟨g,h2⟩:=gd_t h2
     refine zj 7 rfl rfl rfl ⟨tv,tv,g.1,g.2⟩ ?_
     refine zj 8 rfl rfl rfl ⟨tv,tv⟩ ?_
     refine zj 9 rfl rfl rfl tv ?_
     obtain ⟨g,h2⟩:=gd_t h2
     refine zj 10 rfl rfl rfl ⟨tv,tv,g.1,g.2⟩ ?_
     refine zj 11 rfl rfl rfl ⟨tv,tv⟩ ?_
     refine zj 12 rfl rfl rfl tv ?_
     refine zj 13 rfl rfl rfl tv ?_
     refine zj 14 rfl rfl rfl tv ?_
     refine zj 15 rfl rfl rfl ⟨tv,tv⟩ ?_
     refine zj 16 rfl rfl rfl tv ?_
     obtain ⟨g,h2⟩:=gd_t h2
     refine zj 17 rfl rfl rfl ⟨tv,tv,g.1,g.2⟩ ?_
     obtain ⟨g,h2⟩:=gd_t h2
     refine zj 18 rfl rfl rfl ⟨tv,g⟩ ?_
     refine zj 19 rfl rfl rfl tv ?_
     obtain ⟨g,h2⟩:=gd_t h2
     refine zj 20 rfl rfl rfl ⟨tv,tv,g.1,g.2⟩ ?_
     obtain ⟨r158,hr,h2⟩:=bnd h2
     refine AJR_call 21 rfl (Nat.le_of_ble_eq_true rfl) [(0,1041),(1,1),(2,0),(3,2)] rfl (alloc_Share_1.ok0 hr) alloc_Share_1.fnb rfl ⟨tv,⟨tv,⟨tv,tv⟩⟩⟩ rfl ⟨.inr rfl,.inr rfl,.inr rfl,.inr rfl,tv⟩ rfl ?_
     refine zj 22 rfl rfl rfl tv ?_
     refine AJR_end rfl rfl rfl ?_
     refine TE_go ?_
     refine TC_cond rfl (fun hb=>?_) (fun hb=>?_)
     ·first | exact (ftf hb).elim | exact (tff hb).elim | exact absurd hb (by decide)
     ·refine TC_skip ?_
      refine tbn ?_
      refine zt ?_
      refine zv 2 rfl ⟨⟨tv,tv,tv⟩,tv,tv⟩ ?_
      refine zm ?_
      exact TE_nextr [] n (zs n) (_,_) h2 ⟨rfl,rfl,rfl,rfl,rfl,rfl,rfl,tv⟩ ⟨rfl,rfl,rfl,tv⟩ rfl
    ·replace h2:=bif_f h2 hb
     refine TC_exit ?_
     refine tsx ?_
     refine tsx ?_
     refine tbe ?_
     obtain rfl:=sinj h2
     refine tsn ?_
     exact SP_ren [] _ rfl ⟨rfl,rfl,rfl,rfl,tv⟩ ⟨rfl,rfl,rfl,tv⟩ rfl
   ·rintro x143 hz
    obtain rfl:=hz.symm
    refine tbn ?_
    refine zt ?_
    refine zv 2 rfl ⟨⟨tv,tv,tv⟩,tv,tv⟩ ?_
    refine zm ?_
    exact TE_nextr [] n (zs n) (_,_) h1 ⟨rfl,rfl,rfl,rfl,tv⟩ ⟨rfl,rfl,rfl,tv⟩ rfl
  ·replace h1:=bif_f h1 hb
   refine TC_exit ?_
   refine tsx ?_
   refine tsx ?_
   refine tbe ?_
   obtain rfl:=sinj h1
   refine tsn ?_
   exact SP_ren [] _ rfl tv ⟨rfl,rfl,rfl,tv⟩ rfl
 ·rintro x84 hz
  obtain rfl:=hz.symm
  obtain rfl:=sinj h0
  exact TE_end env rfl tv ⟨.inr rfl,.inr rfl,.inr rfl,tv⟩
theorem alloc_sharing_each_3.ok0 {K : Nat} {p0 p1 p2 : Int} {p3 p4 q0 : List (List Int)} (h0 : alloc_sharing_each_3 K p0 p1 p2 p3 p4 = some q0) : Fn Tryz.prog 114 [.p 0 0,.fn 115 [.p 1 0]] [(0,some (.cells [.int .i64 p0,.int .i64 p1,.int .i64 p2,.im (.slice (.slice (.int .i64))) p3,.sl 2])),(1,some (.cells [.p 0 0])),(2,some (.rr true (.int .i64) p4 none))] (.tup []) [(0,some (.cells [.int .i64 p0,.int .i64 p1,.int .i64 p2,.im (.slice (.slice (.int .i64))) p3,.sl 2])),(1,some (.cells [.p 0 0])),(2,some (.rr true (.int .i64) q0 none))]:=alloc_sharing_each_3.ok h0
theorem alloc_sharing_each_3.fnb : fnb Tryz.prog 114 = true:=fnb_of Tryz.func114 rfl
def alloc_sharing_more_1.res (_p0 : Int) (_p1 : Nat) (_p2 : List Int) (_p3 : Bool) (_p4 _p5 _p6 : Int) (_p7 _p8 : List (List Int)) (_p9 : Nat) : Bool × Int × (List (List Int)) → MV
 | (q0,_,_)=>.bool q0
def alloc_sharing_more_1.out (_p0 : Int) (_p1 : Nat) (_p2 : List Int) (p3 : Bool) (p4 p5 _p6 : Int) (p7 _p8 : List (List Int)) (_p9 : Nat) : Bool × Int × (List (List Int)) → List (Nat × Option MObj)
 | (_,q1,q2)=>[(0,none),(1,some (.cells [.p 3 0])),(2,some (.cells [.bool p3])),(3,some (.cells [.int .i64 p4,.int .i64 p5,.int .i64 q1,.im (.slice (.slice (.int .i64))) p7,.sl 4])),(4,some (.rr true (.int .i64) q2 none))]
theorem alloc_sharing_more_1.ok {K : Nat} {p0 : Int} {p1 : Nat} {p2 : List Int} {p3 : Bool} {p4 p5 p6 : Int} {p7 p8 : List (List Int)} {p9 : Nat} {r : Bool × Int × (List (List Int))} (h0 : alloc_sharing_more_1 K p0 p1 p2 p3 p4 p5 p6 p7 p8 p9 = some r) : Fn Tryz.prog 166 [.int .i64 p0,.pe 0 p1 0,.p 1 0,.p 2 0] [(0,some (.rows (.int .i64) p2)),(1,some (.cells [.p 3 0])),(2,some (.cells [.bool p3])),(3,some (.cells [.int .i64 p4,.int .i64 p5,.int .i64 p6,.im (.slice (.slice (.int .i64))) p7,.sl 4])),(4,some (.rr true (.int .i64) p8 (some (p9,.sl 0))))] (alloc_sharing_more_1.res p0 p1 p2 p3 p4 p5 p6 p7 p8 p9 r) (alloc_sharing_more_1.out p0 p1 p2 p3 p4 p5 p6 p7 p8 p9 r):=by
 refine Fn_of Tryz.func166 rfl (Nat.le_of_ble_eq_true rfl) fun Γ=>?_
 refine zr ?_
 refine zv 1 rfl ⟨tv,tv⟩ ?_
 refine ze ?_
 refine TC_seq ?_
 obtain ⟨z1,h1,h0⟩:=bnd h0
 refine TC_cut (α:=Int × (List (List Int))) (fun s=>z1 = .inl s) (fun s=>[]) (fun s=>[(1,some (.cells [.p 3 0])),(2,some (.cells [.bool p3])),(3,some (.cells [.int .i64 p4,.int .i64 p5,.int .i64 s.1,.im (.slice (.slice (.int .i64))) p7,.sl 4])),(4,some (.rr true (.int .i64) s.2 none))]) ?_ ?_
 ·refine TC_blk ?_
  refine TC_seq ?_
  refine TC_renw (A':=[(0,.int .i64 _),(1,.pe 0 _ 0),(2,.p 1 0),(3,.p 2 0)]) (L':=[(0,some (.rows (.int .i64) _)),(1,some (.cells [.p 3 0])),(2,some (.cells [.bool _])),(3,some (.cells [.int .i64 _,.int .i64 _,.int .i64 _,.im (.slice (.slice (.int .i64))) _,.sl 4])),(4,some (.rr true (.int .i64) _ (some (_,.sl 0))))]) [] ⟨rfl,rfl,rfl,rfl,tv⟩ ⟨rfl,rfl,rfl,rfl,rfl,tv⟩ rfl ?_
  refine zd [[],[0],[1,0],[2,1,0],[],[4],[5,4],[6,5,4],[7,6,5,4,3,2,1,0],[8,7,6,5,4,3,2,1,0]] [[],[],[],[],[],[],[],[],[],[]] [[],[],[],[],[],[],[],[],[],[]] [[],[],[],[],[],[],[],[],[],[]] (by kernel_rfl) (by kernel_rfl) ?_
  refine zj 1 rfl rfl rfl ⟨tv,tv⟩ ?_
  refine zj 2 rfl rfl rfl tv ?_
  refine zj 3 rfl rfl rfl tv ?_
  refine zj 4 rfl rfl rfl ⟨tv,tv⟩ ?_
  refine zj 5 rfl rfl rfl ⟨tv,tv⟩ ?_
  refine zj 6 rfl rfl rfl tv ?_
  refine zj 7 rfl rfl rfl tv ?_
  refine zj 8 rfl rfl rfl ⟨tv,tv⟩ ?_
  refine zj 9 rfl rfl rfl ⟨tv,tv,tv⟩ ?_
  refine zj 10 rfl rfl rfl tv ?_
  refine AJR_end rfl rfl rfl ?_
  refine TE_go ?_
  refine TC_cond rfl (fun hb=>?_) (fun hb=>?_)
  ·replace h1:=bif_t h1 hb
   refine zr ?_
   refine zv 1 rfl ⟨tv,tv⟩ ?_
   refine ze ?_
   refine TC_ret ?_
   refine tbr ?_
   refine tsr ?_
   refine tsr ?_
   refine TE_putb 4 0 rfl rfl ?_
   obtain rfl:=sinj h1
   obtain rfl:=sinj h0
   exact TE_ret env rfl tv ⟨.inl rfl,.inr rfl,.inr rfl,.inr rfl,.inr rfl,tv⟩
  ·replace h1:=bif_f h1 hb
   refine zr ?_
   obtain ⟨g,h1⟩:=gd_t h1
   refine zv 11 rfl ⟨tv,tv,⟨tv,g.1⟩,⟨tv,tv,tv⟩,tv,fun eg=>tv,fun eg=>fun e=>e,fun eg=>⟨fun e=>e,(g.2 eg)⟩,fun eg=>⟨fun e=>e,tv,tv⟩,⟨tv,fun e=>e,tv⟩,tv,tv⟩ ?_
   refine ze ?_
   refine TC_cond rfl (fun hb=>?_) (fun hb=>?_)
   ·replace h1:=bif_t h1 hb
    refine zr ?_
    obtain ⟨g,h1⟩:=gd_t h1
    refine zv 6 rfl ⟨tv,tv,⟨tv,g.1⟩,⟨tv,tv,tv⟩,tv,⟨tv,tv,g.2⟩,tv⟩ ?_
    refine ze ?_
    refine TC_reg ?_
    refine zv 8 rfl ⟨⟨tv,tv⟩,tv,tv,⟨tv,tv⟩,⟨tv,tv,tv⟩,tv,tv,⟨tv,tv⟩,tv⟩ ?_
    refine TL_end ?_
    refine tbn ?_
    obtain rfl:=sinj h1
    refine tsn ?_
    refine TE_putb 4 0 rfl rfl ?_
    exact SP_ren [] (_,_) rfl tv ⟨rfl,rfl,rfl,rfl,tv⟩ rfl
   ·replace h1:=bif_f h1 hb
    refine TC_seq ?_
    refine TC_renw (A':=[(0,.int .i64 _),(1,.pe 0 _ 0),(2,.p 1 0),(3,.p 2 0)]) (L':=[(0,some (.rows (.int .i64) _)),(1,some (.cells [.p 3 0])),(2,some (.cells [.bool _])),(3,some (.cells [.int .i64 _,.int .i64 _,.int .i64 _,.im (.slice (.slice (.int .i64))) _,.sl 4])),(4,some (.rr true (.int .i64) _ (some (_,.sl 0))))]) [] ⟨rfl,rfl,rfl,rfl,tv⟩ ⟨rfl,rfl,rfl,rfl,rfl,tv⟩ rfl ?_
    refine zd [[],[0],[1,0],[1,0],[3,1,0],[4,3,1,0],[5,4,3,1,0],[6,5,4,3,1,0],[7,6,5,4,3,2,1,0],[8,7,6,5,4,3,2,1,0],[9,8,7,6,5,4,3,2,1,0],[10,9,8,7,6,5,4,3,2,1,0],[11,10,9,8,7,6,5,4,3,2,1,0],[12,11,10,9,8,7,6,5,4,3,2,1,0],[13,12,11,10,9,8,7,6,5,4,3,2,1,0],[10,9,8,7,6,5,4,3,2,1,0],[15,10,9,8,7,6,5,4,3,2,1,0],[16,15,10,9,8,7,6,5,4,3,2,1,0],[17,16,15,10,9,8,7,6,5,4,3,2,1,0],[18,17,16,15,10,9,8,7,6,5,4,3,2,1,0],[19,18,17,16,15,14,13,12,11,10,9,8,7,6,5,4,3,2,1,0],[20,19,18,17,16,15,14,13,12,11,10,9,8,7,6,5,4,3,2,1,0],[21,20,19,18,17,16,15,14,13,12,11,10,9,8,7,6,5,4,3,2,1,0]] [[],[],[],[],[],[],[],[],[],[],[],[],[],[],[],[],[],[],[],[],[],[],[]] [[],[],[],[],[],[],[],[],[],[],[],[],[],[],[],[],[],[],[],[],[],[],[]] [[],[],[],[],[],[],[],[],[],[],[],[],[],[],[],[],[],[],[],[],[],[],[]] (by kernel_rfl) (by kernel_rfl) ?_
    refine zj 1 rfl rfl rfl ⟨tv,tv⟩ ?_
    refine zj 2 rfl rfl rfl tv ?_
    refine zj 3 rfl rfl rfl (fun eg=>tv) ?_
    refine zj 4 rfl rfl rfl (fun eg=>⟨tv,tv⟩) ?_
    refine zj 5 rfl rfl rfl (fun eg=>fun e=>e) ?_
    refine zj 6 rfl rfl rfl (fun eg=>fun e=>e) ?_
    refine zj 7 rfl rfl rfl (fun eg=>⟨fun e=>e,tv⟩) ?_
    refine zj 8 rfl rfl rfl (fun eg=>⟨fun e=>e,tv,tv⟩) ?_
    refine zj 9 rfl rfl rfl (fun eg=>⟨fun e=>e,fun e=>e,tv⟩) ?_
    refine zj 10 rfl rfl rfl ⟨tv,fun e=>e,tv⟩ ?_
    refine zj 11 rfl rfl rfl tv ?_
    refine zj 12 rfl rfl rfl (fun eg=>⟨tv,tv⟩) ?_
    refine zj 13 rfl rfl rfl (fun eg=>fun e=>e) ?_
    refine zj 14 rfl rfl rfl (fun eg=>fun e=>e) ?_
    refine zj 15 rfl rfl rfl (fun eg=>⟨fun e=>e,tv⟩) ?_
    refine zj 16 rfl rfl rfl (fun eg=>⟨tv,tv⟩) ?_
    refine zj 17 rfl rfl rfl (fun eg=>fun e=>e) ?_
    refine zj 18 rfl rfl rfl (fun eg=>fun e=>e) ?_
    refine zj 19 rfl rfl rfl (fun eg=>⟨fun e=>e,tv⟩) ?_
    refine zj 20 rfl rfl rfl (fun eg=>⟨fun e=>e,tv,tv⟩) ?_
    refine zj 21 rfl rfl rfl (fun eg=>⟨fun e=>e,fun e=>e,tv⟩) ?_
    refine zj 22 rfl rfl rfl ⟨tv,fun e=>e,tv⟩ ?_
    refine zj 23 rfl rfl rfl tv ?_
    refine AJR_end rfl rfl rfl ?_
    refine TE_go ?_
    refine TC_cond rfl (fun hb=>?_) (fun hb=>?_)
    ·replace h1:=bif_t h1 hb
     refine zr ?_
     obtain ⟨g,h1⟩:=gd_t h1
     refine zv 3 rfl ⟨tv,tv,⟨tv,tv,g⟩,tv⟩ ?_
     refine ze ?_
     refine TC_reg ?_
     refine zv 8 rfl ⟨⟨tv,tv⟩,tv,tv,⟨tv,tv⟩,⟨tv,tv,tv⟩,tv,tv,⟨tv,tv⟩,tv⟩ ?_
     refine TL_end ?_
     refine tbn ?_
     obtain rfl:=sinj h1
     refine tsn ?_
     refine TE_putb 4 0 rfl rfl ?_
     exact SP_ren [] (_,_) rfl tv ⟨rfl,rfl,rfl,rfl,tv⟩ rfl
    ·replace h1:=bif_f h1 hb
     refine TC_skip ?_
     refine tbn ?_
     obtain rfl:=sinj h1
     refine tsn ?_
     refine TE_putb 4 0 rfl rfl ?_
     exact SP_ren [] (_,_) rfl tv ⟨rfl,rfl,rfl,rfl,tv⟩ rfl
 ·rintro ⟨x3,x4⟩ rfl
  refine zg ?_
  refine zv 1 rfl ⟨tv,tv⟩ ?_
  refine ze ?_
  refine TC_ret ?_
  obtain rfl:=sinj h0
  exact TE_ret env rfl tv ⟨.inl rfl,.inr rfl,.inr rfl,.inr rfl,.inr rfl,tv⟩
theorem alloc_sharing_more_1.ok0 {K : Nat} {p0 : Int} {p1 : Nat} {p2 : List Int} {p3 : Bool} {p4 p5 p6 : Int} {p7 p8 : List (List Int)} {p9 : Nat} {q0 : Bool} {q1 : Int} {q2 : List (List Int)} (h0 : alloc_sharing_more_1 K p0 p1 p2 p3 p4 p5 p6 p7 p8 p9 = some (q0,q1,q2)) : Fn Tryz.prog 166 [.int .i64 p0,.pe 0 p1 0,.p 1 0,.p 2 0] [(0,some (.rows (.int .i64) p2)),(1,some (.cells [.p 3 0])),(2,some (.cells [.bool p3])),(3,some (.cells [.int .i64 p4,.int .i64 p5,.int .i64 p6,.im (.slice (.slice (.int .i64))) p7,.sl 4])),(4,some (.rr true (.int .i64) p8 (some (p9,.sl 0))))] (.bool q0) [(0,none),(1,some (.cells [.p 3 0])),(2,some (.cells [.bool p3])),(3,some (.cells [.int .i64 p4,.int .i64 p5,.int .i64 q1,.im (.slice (.slice (.int .i64))) p7,.sl 4])),(4,some (.rr true (.int .i64) q2 none))]:=alloc_sharing_more_1.ok h0
theorem alloc_sharing_more_1.fnb : fnb Tryz.prog 166 = true:=fnb_of Tryz.func166 rfl
def alloc_sharing_each_4.res (_p0 _p1 _p2 : Int) (_p3 : List (List Int)) (_p4 : Bool) (_p5 : List (List Int)) : Int × (List (List Int)) → MV
 | (_,_)=>.tup []
def alloc_sharing_each_4.out (p0 p1 _p2 : Int) (p3 : List (List Int)) (p4 : Bool) (_p5 : List (List Int)) : Int × (List (List Int)) → List (Nat × Option MObj)
 | (q0,q1)=>[(0,some (.cells [.int .i64 p0,.int .i64 p1,.int .i64 q0,.im (.slice (.slice (.int .i64))) p3,.sl 3])),(1,some (.cells [.p 0 0])),(2,some (.cells [.bool p4])),(3,some (.rr true (.int .i64) q1 none))]
theorem alloc_sharing_each_4.ok {K : Nat} {p0 p1 p2 : Int} {p3 : List (List Int)} {p4 : Bool} {p5 : List (List Int)} {r : Int × (List (List Int))} (h0 : alloc_sharing_each_4 K p0 p1 p2 p3 p4 p5 = some r) : Fn Tryz.prog 114 [.p 0 0,.fn 166 [.p 1 0,.p 2 0]] [(0,some (.cells [.int .i64 p0,.int .i64 p1,.int .i64 p2,.im (.slice (.slice (.int .i64))) p3,.sl 3])),(1,some (.cells [.p 0 0])),(2,some (.cells [.bool p4])),(3,some (.rr true (.int .i64) p5 none))] (alloc_sharing_each_4.res p0 p1 p2 p3 p4 p5 r) (alloc_sharing_each_4.out p0 p1 p2 p3 p4 p5 r):=by
 refine Fn_of Tryz.func114 rfl (Nat.le_of_ble_eq_true rfl) fun Γ=>?_
 refine zr ?_
 obtain ⟨g,h0⟩:=gd_t h0
 refine zv 8 rfl ⟨tv,tv,tv,⟨tv,tv⟩,⟨tv,tv,(by decide),g⟩,⟨tv,tv⟩,⟨tv,tv⟩,tv,tv⟩ ?_
 refine ze ?_
 obtain ⟨z1,h1,h0⟩:=bnd h0
 refine TC_cut (α:=Int × (List (List Int))) (fun s=>z1 = .inl s) (fun s=>[]) (fun s=>[(0,some (.cells [.int .i64 p0,.int .i64 p1,.int .i64 s.1,.im (.slice (.slice (.int .i64))) p3,.sl 3])),(1,some (.cells [.p 0 0])),(2,some (.cells [.bool p4])),(3,some (.rr true (.int .i64) s.2 none))]) ?_ ?_
 ·refine TC_blk ?_
  refine TC_loop (α:=Int × Int × (List (List Int))) (fun n s=>alloc_sharing_each_4.l0 K ((Kd.nth (.slice (.int .i64)) p3 0).length : Int) p0 p1 p3 p4 n s.1 s.2.1 s.2.2 = some z1) (fun s=>[(0,.p 0 0),(1,.fn 166 [.p 1 0,.p 2 0]),(12,.int .i64 ((Kd.nth (.slice (.int .i64)) p3 0).length : Int)),(13,.int .i64 s.1)]) (fun s=>[(0,some (.cells [.int .i64 p0,.int .i64 p1,.int .i64 s.2.1,.im (.slice (.slice (.int .i64))) p3,.sl 3])),(1,some (.cells [.p 0 0])),(2,some (.cells [.bool p4])),(3,some (.rr true (.int .i64) s.2.2 none))]) K ?_ ?_
  ·exact SP_ren [] (_,_,_) h1 ⟨rfl,rfl,rfl,rfl,tv⟩ ⟨rfl,rfl,rfl,rfl,tv⟩ rfl
  rintro n ⟨x219,x220,x221⟩ h1
  rcases n with _ | n
  ·exact (nsome h1).elim
  replace h1 : alloc_sharing_each_4.r0 K ((Kd.nth (.slice (.int .i64)) p3 0).length : Int) p0 p1 p3 p4 (alloc_sharing_each_4.l0 K ((Kd.nth (.slice (.int .i64)) p3 0).length : Int) p0 p1 p3 p4 n) x219 x220 x221 = some z1:=h1
  refine zr ?_
  refine zv 1 rfl ⟨⟨tv,tv,tv⟩,tv⟩ ?_
  refine ze ?_
  refine TC_seq ?_
  refine TC_cond rfl (fun hb=>?_) (fun hb=>?_)
  ·replace h1:=bif_t h1 hb
   refine TC_skip ?_
   refine TE_go ?_
   refine TC_seq ?_
   refine TC_blk ?_
   refine zr ?_
   refine zv 2 rfl ⟨tv,tv,tv⟩ ?_
   refine zn ?_
   refine zv 6 rfl ⟨tv,tv,tv,⟨tv,tv⟩,⟨tv,tv⟩,tv,tv⟩ ?_
   refine ze ?_
   obtain ⟨z2,h2,h1⟩:=bnd h1
   refine TC_cut (α:=Int × (List (List Int))) (fun s=>z2 = .inl s) (fun s=>[(0,.p 0 0),(1,.fn 166 [.p 1 0,.p 2 0]),(12,.int .i64 ((Kd.nth (.slice (.int .i64)) p3 0).length : Int)),(13,.int .i64 x219)]) (fun s=>[(0,some (.cells [.int .i64 p0,.int .i64 p1,.int .i64 s.1,.im (.slice (.slice (.int .i64))) p3,.sl 3])),(1,some (.cells [.p 0 0])),(2,some (.cells [.bool p4])),(3,some (.rr true (.int .i64) s.2 none))]) ?_ ?_
   ·refine TC_blk ?_
    refine TC_loop (α:=Int × Int × (List (List Int))) (fun n s=>alloc_sharing_each_4.l1 K x219 ((Kd.nth (.slice (.int .i64)) p3 0).length : Int) (p3.length : Int) p0 p1 p3 p4 n s.1 s.2.1 s.2.2 = some z2) (fun s=>[(0,.p 0 0),(1,.fn 166 [.p 1 0,.p 2 0]),(4,.int .i64 x219),(12,.int .i64 ((Kd.nth (.slice (.int .i64)) p3 0).length : Int)),(13,.int .i64 x219),(20,.int .i64 (p3.length : Int)),(21,.int .i64 s.1)]) (fun s=>[(0,some (.cells [.int .i64 p0,.int .i64 p1,.int .i64 s.2.1,.im (.slice (.slice (.int .i64))) p3,.sl 3])),(1,some (.cells [.p 0 0])),(2,some (.cells [.bool p4])),(3,some (.rr true (.int .i64) s.2.2 none))]) K ?_ ?_
    ·exact SP_ren [] (_,_,_) h2 ⟨rfl,rfl,rfl,rfl,rfl,rfl,rfl,tv⟩ ⟨rfl,rfl,rfl,rfl,tv⟩ rfl
    rintro n ⟨x313,x314,x315⟩ h2
    rcases n with _ | n
    ·exact (nsome h2).elim
    replace h2 : alloc_sharing_each_4.r1 K x219 ((Kd.nth (.slice (.int .i64)) p3 0).length : Int) (p3.length : Int) p0 p1 p3 p4 (alloc_sharing_each_4.l1 K x219 ((Kd.nth (.slice (.int .i64)) p3 0).length : Int) (p3.length : Int) p0 p1 p3 p4 n) x313 x314 x315 = some z2:=h2
    refine zr ?_
    refine zv 1 rfl ⟨⟨tv,tv,tv⟩,tv⟩ ?_
    refine ze ?_
    refine TC_seq ?_
    refine TC_cond rfl (fun hb=>?_) (fun hb=>?_)
    ·replace h2:=bif_t h2 hb
     refine TC_skip ?_
     refine TE_go ?_
     refine TC_seq ?_
     refine TC_blk ?_
     refine zr ?_
     refine zv 2 rfl ⟨tv,tv,tv⟩ ?_
     refine ze ?_
     refine TC_seq ?_
     refine TC_renw (A':=[(0,.p 0 0),(1,.fn 166 [.p 1 0,.p 2 0]),(4,.int .i64 _),(5,.int .i64 _),(12,.int .i64 _),(13,.int .i64 _),(20,.int .i64 _),(21,.int .i64 _)]) (L':=[(0,some (.cells [.int .i64 _,.int .i64 _,.int .i64 _,.im (.slice (.slice (.int .i64))) _,.sl 3])),(1,some (.cells [.p 0 0])),(2,some (.cells [.bool _])),(3,some (.rr true (.int .i64) _ none))]) [] ⟨rfl,rfl,rfl,rfl,rfl,rfl,rfl,rfl,tv⟩ ⟨rfl,rfl,rfl,rfl,tv⟩ rfl ?_
     refine zd [[],[],[1],[2,1],[3,2,1],[],[5,4,3,2,1],[6,5,4,3,2,1],[],[8,7,6,5,4,3,2,1],[9,8,7,6,5,4,3,2,1],[],[11],[12,11],[13,12,11],[],[15,14,13,12,11],[16,15,14,13,12,11],[],[18,17,16,15,14,13,12,11],[19,18,17,16,15,14,13,12,11,10,9,8,7,6,5,4,3,2,1,0],[20,19,18,17,16,15,14,13,12,11,10,9,8,7,6,5,4,3,2,1,0]] [[],[],[],[],[],[],[],[],[],[],[],[],[],[],[],[],[],[3,1041],[],[],[0,1,2,3,1041],[]] [[],[],[],[],[],[],[],[],[],[],[],[],[],[],[],[],[],[1041],[],[],[],[]] [[3,1041],[3,1041],[3,1041],[3,1041],[3,1041],[3,1041],[3,1041],[3,1041],[3,1041],[3,1041],[3,1041],[],[],[],[],[],[],[],[3,1041],[],[],[]] (by kernel_rfl) (by kernel_rfl) ?_
     refine zj 1 rfl rfl rfl tv ?_
     refine zj 2 rfl rfl rfl tv ?_
     refine zj 3 rfl rfl rfl tv ?_
     refine zj 4 rfl rfl rfl tv ?_
     refine zj 5 rfl rfl rfl ⟨tv,tv⟩ ?_
     refine zj 6 rfl rfl rfl tv ?_
     obtain ⟨g,h2⟩:=gd_t h2
     refine zj 7 rfl rfl rfl ⟨tv,tv,g.1,g.2⟩ ?_
     refine zj 8 rfl rfl rfl ⟨tv,tv⟩ ?_
     refine zj 9 rfl rfl rfl tv ?_
     obtain ⟨g,h2⟩:=gd_t h2
     refine zj 10 rfl rfl rfl ⟨tv,tv,g.1,g.2⟩ ?_
     refine zj 11 rfl rfl rfl ⟨tv,tv⟩ ?_
     refine zj 12 rfl rfl rfl tv ?_
     refine zj 13 rfl rfl rfl tv ?_
     refine zj 14 rfl rfl rfl tv ?_
     refine zj 15 rfl rfl rfl ⟨tv,tv⟩ ?_
     refine zj 16 rfl rfl rfl tv ?_
     obtain ⟨g,h2⟩:=gd_t h2
     refine zj 17 rfl rfl rfl ⟨tv,tv,g.1,g.2⟩ ?_
     obtain ⟨g,h2⟩:=gd_t h2
     refine zj 18 rfl rfl rfl ⟨tv,g⟩ ?_
     refine zj 19 rfl rfl rfl tv ?_
     obtain ⟨g,h2⟩:=gd_t h2
     refine zj 20 rfl rfl rfl ⟨tv,tv,g.1,g.2⟩ ?_
     obtain ⟨⟨r332,r333,r334⟩,hr,h2⟩:=bnd h2
     refine AJR_call 21 rfl (Nat.le_of_ble_eq_true rfl) [(0,1041),(1,1),(2,2),(3,0),(4,3)] rfl (alloc_sharing_more_1.ok0 hr) alloc_sharing_more_1.fnb rfl ⟨tv,⟨tv,⟨tv,tv⟩⟩⟩ rfl ⟨.inr rfl,.inr rfl,.inr rfl,.inr rfl,.inr rfl,tv⟩ rfl ?_
     refine zj 22 rfl rfl rfl tv ?_
     refine AJR_end rfl rfl rfl ?_
     refine TE_go ?_
     refine TC_cond rfl (fun hb=>?_) (fun hb=>?_)
     ·replace h2:=bif_t h2 hb
      refine TC_ret ?_
      refine tbr ?_
      refine tsr ?_
      refine tsr ?_
      refine tbr ?_
      refine tsr ?_
      refine tbr ?_
      refine tsr ?_
      refine tsr ?_
      refine tbr ?_
      refine tsr ?_
      obtain rfl:=sinj h2
      obtain rfl:=sinj h1
      obtain rfl:=sinj h0
      exact TE_ret env rfl tv ⟨.inr rfl,.inr rfl,.inr rfl,.inr rfl,tv⟩
     ·replace h2:=bif_f h2 hb
      refine TC_skip ?_
      refine tbn ?_
      refine zt ?_
      refine zv 2 rfl ⟨⟨tv,tv,tv⟩,tv,tv⟩ ?_
      refine zm ?_
      exact TE_nextr [] n (zs n) (_,_,_) h2 ⟨rfl,rfl,rfl,rfl,rfl,rfl,rfl,tv⟩ ⟨rfl,rfl,rfl,rfl,tv⟩ rfl
    ·replace h2:=bif_f h2 hb
     refine TC_exit ?_
     refine tsx ?_
     refine tsx ?_
     refine tbe ?_
     obtain rfl:=sinj h2
     refine tsn ?_
     exact SP_ren [] (_,_) rfl ⟨rfl,rfl,rfl,rfl,tv⟩ ⟨rfl,rfl,rfl,rfl,tv⟩ rfl
   ·rintro ⟨x304,x305⟩ rfl
    refine tbn ?_
    refine zt ?_
    refine zv 2 rfl ⟨⟨tv,tv,tv⟩,tv,tv⟩ ?_
    refine zm ?_
    exact TE_nextr [] n (zs n) (_,_,_) h1 ⟨rfl,rfl,rfl,rfl,tv⟩ ⟨rfl,rfl,rfl,rfl,tv⟩ rfl
  ·replace h1:=bif_f h1 hb
   refine TC_exit ?_
   refine tsx ?_
   refine tsx ?_
   refine tbe ?_
   obtain rfl:=sinj h1
   refine tsn ?_
   exact SP_ren [] (_,_) rfl tv ⟨rfl,rfl,rfl,rfl,tv⟩ rfl
 ·rintro ⟨x177,x178⟩ rfl
  obtain rfl:=sinj h0
  exact TE_end env rfl tv ⟨.inr rfl,.inr rfl,.inr rfl,.inr rfl,tv⟩
theorem alloc_sharing_each_4.ok0 {K : Nat} {p0 p1 p2 : Int} {p3 : List (List Int)} {p4 : Bool} {p5 : List (List Int)} {q0 : Int} {q1 : List (List Int)} (h0 : alloc_sharing_each_4 K p0 p1 p2 p3 p4 p5 = some (q0,q1)) : Fn Tryz.prog 114 [.p 0 0,.fn 166 [.p 1 0,.p 2 0]] [(0,some (.cells [.int .i64 p0,.int .i64 p1,.int .i64 p2,.im (.slice (.slice (.int .i64))) p3,.sl 3])),(1,some (.cells [.p 0 0])),(2,some (.cells [.bool p4])),(3,some (.rr true (.int .i64) p5 none))] (.tup []) [(0,some (.cells [.int .i64 p0,.int .i64 p1,.int .i64 q0,.im (.slice (.slice (.int .i64))) p3,.sl 3])),(1,some (.cells [.p 0 0])),(2,some (.cells [.bool p4])),(3,some (.rr true (.int .i64) q1 none))]:=alloc_sharing_each_4.ok h0
theorem alloc_sharing_each_4.fnb : fnb Tryz.prog 114 = true:=fnb_of Tryz.func114 rfl
def alloc_sharing_more.res (_p0 : Bool) (_p1 _p2 _p3 : Int) (_p4 _p5 : List (List Int)) : Int × (List (List Int)) → MV
 | (_,_)=>.tup []
def alloc_sharing_more.out (_p0 : Bool) (p1 p2 _p3 : Int) (p4 _p5 : List (List Int)) : Int × (List (List Int)) → List (Nat × Option MObj)
 | (q0,q1)=>[(0,some (.cells [.int .i64 p1,.int .i64 p2,.int .i64 q0,.im (.slice (.slice (.int .i64))) p4,.sl 1])),(1,some (.rr true (.int .i64) q1 none))]
theorem alloc_sharing_more.ok {K : Nat} {p0 : Bool} {p1 p2 p3 : Int} {p4 p5 : List (List Int)} {r : Int × (List (List Int))} (h0 : alloc_sharing_more K p0 p1 p2 p3 p4 p5 = some r) : Fn Tryz.prog 116 [.p 0 0,.bool p0] [(0,some (.cells [.int .i64 p1,.int .i64 p2,.int .i64 p3,.im (.slice (.slice (.int .i64))) p4,.sl 1])),(1,some (.rr true (.int .i64) p5 none))] (alloc_sharing_more.res p0 p1 p2 p3 p4 p5 r) (alloc_sharing_more.out p0 p1 p2 p3 p4 p5 r):=by
 refine Fn_of Tryz.func116 rfl (Nat.le_of_ble_eq_true rfl) fun Γ=>?_
 refine zr ?_
 refine zv 2 rfl ⟨tv,tv,tv⟩ ?_
 refine ze ?_
 refine TC_reg ?_
 refine zv 2 rfl ⟨⟨tv,tv⟩,⟨tv,tv,tv⟩,tv⟩ ?_
 obtain ⟨⟨r3,r4⟩,hr,h0⟩:=bnd h0
 refine TL_callB [(0,0),(1,1002),(2,1003),(3,1)] (alloc_sharing_each_4.ok0 hr) alloc_sharing_each_4.fnb rfl ⟨tv,⟨tv,⟨tv,tv⟩⟩⟩ rfl ⟨.inr rfl,.inr rfl,.inr rfl,.inr rfl,tv⟩ rfl ?_
 refine TL_end ?_
 obtain rfl:=sinj h0
 exact TE_end env rfl tv ⟨.inr rfl,.inr rfl,tv⟩
theorem alloc_sharing_more.ok0 {K : Nat} {p0 : Bool} {p1 p2 p3 : Int} {p4 p5 : List (List Int)} {q0 : Int} {q1 : List (List Int)} (h0 : alloc_sharing_more K p0 p1 p2 p3 p4 p5 = some (q0,q1)) : Fn Tryz.prog 116 [.p 0 0,.bool p0] [(0,some (.cells [.int .i64 p1,.int .i64 p2,.int .i64 p3,.im (.slice (.slice (.int .i64))) p4,.sl 1])),(1,some (.rr true (.int .i64) p5 none))] (.tup []) [(0,some (.cells [.int .i64 p1,.int .i64 p2,.int .i64 q0,.im (.slice (.slice (.int .i64))) p4,.sl 1])),(1,some (.rr true (.int .i64) q1 none))]:=alloc_sharing_more.ok h0
theorem alloc_sharing_more.fnb : fnb Tryz.prog 116 = true:=fnb_of Tryz.func116 rfl
def alloc_Share.res (_p0 _p1 _p2 _p3 _p4 _p5 _p6 _p7 _p8 _p9 : Int) (_p10 : List (List Int)) : (List (List Int)) × Int → MV
 | (q0,q1)=>.tup [.im (.slice (.slice (.int .i64))) q0,.int .i64 q1]
def alloc_Share.out (_p0 _p1 _p2 _p3 _p4 _p5 _p6 _p7 _p8 _p9 : Int) (_p10 : List (List Int)) : (List (List Int)) × Int → List (Nat × Option MObj)
 | (_,_)=>[]
theorem alloc_Share.ok {K : Nat} {p0 p1 p2 p3 p4 p5 p6 p7 p8 p9 : Int} {p10 : List (List Int)} {r : (List (List Int)) × Int} (h0 : alloc_Share K p0 p1 p2 p3 p4 p5 p6 p7 p8 p9 p10 = some r) : Fn Tryz.prog 54 [.agg [.int .i64 p0,.int .i64 p1,.int .i64 p2,.int .i64 p3,.int .i64 p4,.int .i64 p5,.int .i64 p6,.int .i64 p7,.int .i64 p8,.int .i64 p9],.im (.slice (.slice (.int .i64))) p10] [] (alloc_Share.res p0 p1 p2 p3 p4 p5 p6 p7 p8 p9 p10 r) (alloc_Share.out p0 p1 p2 p3 p4 p5 p6 p7 p8 p9 p10 r):=by
 refine Fn_of Tryz.func54 rfl (Nat.le_of_ble_eq_true rfl) fun Γ=>?_
 refine zr ?_
 refine zv 3 rfl ⟨tv,tv,tv,tv⟩ ?_
 refine zn ?_
 refine zv 2 rfl ⟨⟨tv,tv⟩,tv,tv⟩ ?_
 obtain ⟨⟨r16,r17⟩,hr,h0⟩:=bnd h0
 refine TL_callB [] (alloc_Needs.ok0 hr) alloc_Needs.fnb rfl ⟨tv,⟨tv,⟨tv,tv⟩⟩⟩ rfl tv rfl ?_
 refine zv 5 rfl ⟨tv,tv,tv,tv,tv,tv⟩ ?_
 refine ze ?_
 refine TC_seq ?_
 refine zr ?_
 refine zv 2 rfl ⟨tv,⟨tv,tv,tv⟩,tv⟩ ?_
 refine ze ?_
 refine TC_cond rfl (fun hb=>?_) (fun hb=>?_)
 ·replace h0:=bif_t h0 hb
  refine zr ?_
  refine zv 3 rfl ⟨tv,tv,tv,tv⟩ ?_
  refine ze ?_
  refine TC_ret ?_
  refine tsr ?_
  refine TE_imn 4 (.slice (.int .i64)) rfl ?_
  obtain rfl:=sinj h0
  exact TE_ret env rfl tv tv
 ·replace h0:=bif_f h0 hb
  refine TC_skip ?_
  refine TE_go ?_
  refine TC_seq ?_
  refine TC_renw (A':=[(2,.p 1002 0),(6,.im (.slice (.slice (.int .i64))) _)]) (L':=[(1002,some (.cells [.int .i64 _,.int .i64 _,.int .i64 _,.int .i64 _,.int .i64 _,.int .i64 _,.int .i64 _,.int .i64 _,.int .i64 _,.int .i64 _]))]) [] ⟨rfl,rfl,tv⟩ ⟨rfl,tv⟩ rfl ?_
  refine zd [[],[0],[],[],[3],[4,3],[5,4,3,2,1,0],[6,5,4,3,2,1,0],[],[8,7,6,5,4,3,2,1,0]] [[],[],[],[],[],[1024],[],[1026],[1008],[1008]] [[],[],[],[],[],[1024],[],[1026],[1008],[]] [[1008,1024],[1008,1024],[1008,1024],[1008],[1008],[1008],[1008],[1008],[1024,1026],[]] (by kernel_rfl) (by kernel_rfl) ?_
  refine zj 1 rfl rfl rfl tv ?_
  refine zj 2 rfl rfl rfl ⟨tv,tv⟩ ?_
  refine zj 3 rfl rfl rfl tv ?_
  refine zj 4 rfl rfl rfl tv ?_
  refine zj 5 rfl rfl rfl ⟨tv,tv⟩ ?_
  obtain ⟨g,h0⟩:=gd_t h0
  refine zj 6 rfl rfl rfl ⟨tv,tv,g.1,g.2.1,g.2.2⟩ ?_
  refine zj 7 rfl rfl rfl ⟨tv,tv,tv,tv,tv⟩ ?_
  refine zj 8 rfl rfl rfl tv ?_
  refine zj 9 rfl rfl rfl tv ?_
  refine zj 10 rfl rfl rfl ⟨tv,tv⟩ ?_
  refine AJR_end rfl rfl rfl ?_
  refine TE_go ?_
  refine TC_seq ?_
  refine zr ?_
  refine zv 6 rfl ⟨⟨tv,tv⟩,tv,tv,⟨tv,tv⟩,⟨tv,tv⟩,tv,tv⟩ ?_
  refine ze ?_
  obtain ⟨z1,h1,h0⟩:=bnd h0
  refine TC_cut (α:=(List (List Int))) (fun s=>z1 = s) (fun s=>[(8,.p 10800 0)]) (fun s=>[(10800,some (.cells [.p 10801 0])),(10801,some (.cells [.int .i64 p7,.int .i64 (-99),.int .i64 0,.im (.slice (.slice (.int .i64))) r16,.sl 10802])),(10802,some (.rr true (.int .i64) s none))]) ?_ ?_
  ·refine TC_blk ?_
   refine TC_loop (α:=Int × (List (List Int))) (fun n s=>alloc_Share.l0 K ((List.replicate (Int.toNat p2) ([] : List Int)).length : Int) p0 p1 p2 p3 p4 p5 p6 p7 p8 p9 r16 n s.1 s.2 = some z1) (fun s=>[(2,.p 11000 0),(8,.p 11001 0),(31,.int .i64 ((List.replicate (Int.toNat p2) ([] : List Int)).length : Int)),(32,.int .i64 s.1)]) (fun s=>[(11000,some (.cells [.int .i64 p0,.int .i64 p1,.int .i64 p2,.int .i64 p3,.int .i64 p4,.int .i64 p5,.int .i64 p6,.int .i64 p7,.int .i64 p8,.int .i64 p9])),(11001,some (.cells [.p 11002 0])),(11002,some (.cells [.int .i64 p7,.int .i64 (-99),.int .i64 0,.im (.slice (.slice (.int .i64))) r16,.sl 11003])),(11003,some (.rr true (.int .i64) s.2 none))]) K ?_ ?_
   ·exact SP_ren [(11000,1002),(11001,1008),(11002,1026),(11003,1024)] (_,_) h1 ⟨rfl,rfl,rfl,rfl,tv⟩ ⟨rfl,rfl,rfl,rfl,tv⟩ rfl
   rintro n ⟨x33,x34⟩ h1
   rcases n with _ | n
   ·exact (nsome h1).elim
   replace h1 : alloc_Share.r0 K ((List.replicate (Int.toNat p2) ([] : List Int)).length : Int) p0 p1 p2 p3 p4 p5 p6 p7 p8 p9 r16 (alloc_Share.l0 K ((List.replicate (Int.toNat p2) ([] : List Int)).length : Int) p0 p1 p2 p3 p4 p5 p6 p7 p8 p9 r16 n) x33 x34 = some z1:=h1
   refine zr ?_
   refine zv 1 rfl ⟨⟨tv,tv,tv⟩,tv⟩ ?_
   refine ze ?_
   refine TC_seq ?_
   refine TC_cond rfl (fun hb=>?_) (fun hb=>?_)
   ·replace h1:=bif_t h1 hb
    refine TC_skip ?_
    refine TE_go ?_
    refine TC_seq ?_
    refine TC_blk ?_
    refine zr ?_
    refine zv 2 rfl ⟨tv,tv,tv⟩ ?_
    refine ze ?_
    refine TC_renw (A':=[(2,.p 11000 0),(8,.p 11001 0),(9,.int .i64 _),(31,.int .i64 _),(32,.int .i64 _)]) (L':=[(11000,some (.cells [.int .i64 _,.int .i64 _,.int .i64 _,.int .i64 _,.int .i64 _,.int .i64 _,.int .i64 _,.int .i64 _,.int .i64 _,.int .i64 _])),(11001,some (.cells [.p 11002 0])),(11002,some (.cells [.int .i64 _,.int .i64 (-99),.int .i64 0,.im (.slice (.slice (.int .i64))) _,.sl 11003])),(11003,some (.rr true (.int .i64) _ none))]) [] ⟨rfl,rfl,rfl,rfl,rfl,tv⟩ ⟨rfl,rfl,rfl,rfl,tv⟩ rfl ?_
    refine zd [[],[0],[1,0],[2,1,0],[],[],[5],[6,5],[7,6,5,4,3,2,1,0],[8,7,6,5,4,3,2,1,0]] [[],[],[],[],[],[],[],[1042],[],[1042,11003]] [[],[],[],[],[],[],[],[1042],[],[]] [[1042],[1042],[1042],[1042],[1042],[],[],[],[],[]] (by kernel_rfl) (by kernel_rfl) ?_
    refine zj 1 rfl rfl rfl ⟨tv,tv⟩ ?_
    refine zj 2 rfl rfl rfl tv ?_
    refine zj 3 rfl rfl rfl tv ?_
    refine zj 4 rfl rfl rfl ⟨tv,tv⟩ ?_
    refine zj 5 rfl rfl rfl tv ?_
    refine zj 6 rfl rfl rfl tv ?_
    refine zj 7 rfl rfl rfl ⟨tv,tv⟩ ?_
    obtain ⟨g,h1⟩:=gd_t h1
    refine zj 8 rfl rfl rfl ⟨tv,tv,g.1,g.2.1,g.2.2⟩ ?_
    obtain ⟨g,h1⟩:=gd_t h1
    refine zj 9 rfl rfl rfl ⟨tv,tv,g.1,g.2⟩ ?_
    obtain ⟨g,h1⟩:=gd_t h1
    refine zj 10 rfl rfl rfl ⟨tv,tv,g,tv⟩ ?_
    refine AJR_end rfl rfl rfl ?_
    refine tbn ?_
    refine zt ?_
    refine zv 2 rfl ⟨⟨tv,tv,tv⟩,tv,tv⟩ ?_
    refine zm ?_
    exact TE_nextr [(11000,11000),(11001,11001),(11002,11002),(11003,11003)] n (zs n) (_,_) h1 ⟨rfl,rfl,rfl,rfl,tv⟩ ⟨rfl,rfl,rfl,rfl,tv⟩ rfl
   ·replace h1:=bif_f h1 hb
    refine TC_exit ?_
    refine tsx ?_
    refine tsx ?_
    refine tbe ?_
    obtain rfl:=sinj h1
    refine tsn ?_
    exact SP_ren [(10800,11001),(10801,11002),(10802,11003)] _ rfl ⟨rfl,tv⟩ ⟨rfl,rfl,rfl,tv⟩ rfl
  ·rintro x24 hz
   obtain rfl:=hz.symm
   refine zg ?_
   refine zv 1 rfl ⟨⟨tv,tv⟩,tv⟩ ?_
   obtain ⟨⟨r25,r26,r27⟩,hr,h0⟩:=bnd h0
   refine TL_callB [(0,10801),(1,10802)] (alloc_sharing_cut.ok0 hr) alloc_sharing_cut.fnb rfl ⟨tv,⟨tv,tv⟩⟩ rfl ⟨.inr rfl,.inr rfl,tv⟩ rfl ?_
   refine zn ?_
   refine zv 2 rfl ⟨⟨tv,tv⟩,⟨tv,tv⟩,tv⟩ ?_
   obtain ⟨r28,hr,h0⟩:=bnd h0
   refine TL_callB [(0,10801),(1,10800),(2,10802)] (alloc_sharing_each_3.ok0 hr) alloc_sharing_each_3.fnb rfl ⟨tv,⟨tv,⟨tv,tv⟩⟩⟩ rfl ⟨.inr rfl,.inr rfl,.inr rfl,tv⟩ rfl ?_
   refine zn ?_
   refine zv 1 rfl ⟨⟨tv,tv⟩,tv⟩ ?_
   obtain ⟨⟨r29,r30⟩,hr,h0⟩:=bnd h0
   refine TL_callB [(0,10801),(1,10802)] (alloc_sharing_more.ok0 hr) alloc_sharing_more.fnb rfl ⟨tv,⟨tv,⟨tv,tv⟩⟩⟩ rfl ⟨.inr rfl,.inr rfl,tv⟩ rfl ?_
   refine zn ?_
   refine zv 1 rfl ⟨⟨tv,tv⟩,tv⟩ ?_
   obtain ⟨⟨r31,r32⟩,hr,h0⟩:=bnd h0
   refine TL_callB [(0,10801),(1,10802)] (alloc_sharing_more.ok0 hr) alloc_sharing_more.fnb rfl ⟨tv,⟨tv,⟨tv,tv⟩⟩⟩ rfl ⟨.inr rfl,.inr rfl,tv⟩ rfl ?_
   refine zn ?_
   refine zv 6 rfl ⟨⟨tv,tv⟩,tv,tv,⟨tv,tv⟩,tv,tv,tv⟩ ?_
   refine ze ?_
   refine TC_ret ?_
   refine TE_frr 10802 rfl ?_
   obtain rfl:=sinj h0
   exact TE_ret env rfl tv tv
theorem alloc_Share.ok0 {K : Nat} {p0 p1 p2 p3 p4 p5 p6 p7 p8 p9 : Int} {p10 q0 : List (List Int)} {q1 : Int} (h0 : alloc_Share K p0 p1 p2 p3 p4 p5 p6 p7 p8 p9 p10 = some (q0,q1)) : Fn Tryz.prog 54 [.agg [.int .i64 p0,.int .i64 p1,.int .i64 p2,.int .i64 p3,.int .i64 p4,.int .i64 p5,.int .i64 p6,.int .i64 p7,.int .i64 p8,.int .i64 p9],.im (.slice (.slice (.int .i64))) p10] [] (.tup [.im (.slice (.slice (.int .i64))) q0,.int .i64 q1]) []:=alloc_Share.ok h0
theorem alloc_Share.fnb : fnb Tryz.prog 54 = true:=fnb_of Tryz.func54 rfl
def subband_Params_share_2.res (_p0 _p1 _p2 _p3 _p4 _p5 _p6 _p7 _p8 _p9 _p10 : Int) : Bool → MV
 | q0=>.bool q0
def subband_Params_share_2.out (_p0 p1 p2 p3 p4 p5 p6 p7 p8 p9 p10 : Int) : Bool → List (Nat × Option MObj)
 | _=>[(0,some (.cells [.int .i64 p1,.int .i64 p2,.int .i64 p3,.int .i64 p4,.int .i64 p5,.int .i64 p6,.int .i64 p7,.int .i64 p8,.int .i64 p9,.int .i64 p10]))]
theorem subband_Params_share_2.ok {K : Nat} {p0 p1 p2 p3 p4 p5 p6 p7 p8 p9 p10 : Int} {r : Bool} (h0 : subband_Params_share_2 K p0 p1 p2 p3 p4 p5 p6 p7 p8 p9 p10 = some r) : Fn Tryz.prog 100 [.int .i64 p0,.p 0 0] [(0,some (.cells [.int .i64 p1,.int .i64 p2,.int .i64 p3,.int .i64 p4,.int .i64 p5,.int .i64 p6,.int .i64 p7,.int .i64 p8,.int .i64 p9,.int .i64 p10]))] (subband_Params_share_2.res p0 p1 p2 p3 p4 p5 p6 p7 p8 p9 p10 r) (subband_Params_share_2.out p0 p1 p2 p3 p4 p5 p6 p7 p8 p9 p10 r):=by
 refine Fn_of Tryz.func100 rfl (Nat.le_of_ble_eq_true rfl) fun Γ=>?_
 refine zr ?_
 refine zv 1 rfl ⟨tv,tv⟩ ?_
 refine zn ?_
 refine zv 12 rfl ⟨tv,⟨tv,tv,tv⟩,tv,fun eg=>tv,fun eg=>⟨fun e=>e,tv⟩,fun eg=>⟨fun e=>e,tv,tv⟩,fun eg=>fun e=>e,fun eg=>tv,fun eg=>⟨fun e=>e,tv,tv⟩,fun eg=>⟨fun e=>e,((by decide : ∀ b0 b1 : Bool,(!b1) = true → b0 = true → ((!b1) && b0) = true) _ _ eg),tv⟩,⟨tv,tv,fun e=>e⟩,tv,tv⟩ ?_
 refine ze ?_
 refine TC_ret ?_
 obtain rfl:=sinj h0
 exact TE_ret env rfl tv ⟨.inr rfl,tv⟩
theorem subband_Params_share_2.ok0 {K : Nat} {p0 p1 p2 p3 p4 p5 p6 p7 p8 p9 p10 : Int} {q0 : Bool} (h0 : subband_Params_share_2 K p0 p1 p2 p3 p4 p5 p6 p7 p8 p9 p10 = some q0) : Fn Tryz.prog 100 [.int .i64 p0,.p 0 0] [(0,some (.cells [.int .i64 p1,.int .i64 p2,.int .i64 p3,.int .i64 p4,.int .i64 p5,.int .i64 p6,.int .i64 p7,.int .i64 p8,.int .i64 p9,.int .i64 p10]))] (.bool q0) [(0,some (.cells [.int .i64 p1,.int .i64 p2,.int .i64 p3,.int .i64 p4,.int .i64 p5,.int .i64 p6,.int .i64 p7,.int .i64 p8,.int .i64 p9,.int .i64 p10]))]:=subband_Params_share_2.ok h0
theorem subband_Params_share_2.fnb : fnb Tryz.prog 100 = true:=fnb_of Tryz.func100 rfl
def subband_shaped_int_1.res (_p0 _p1 _p2 _p3 _p4 _p5 _p6 _p7 _p8 _p9 _p10 : Int) : Bool → MV
 | q0=>.bool q0
def subband_shaped_int_1.out (_p0 p1 p2 p3 p4 p5 p6 p7 p8 p9 p10 : Int) : Bool → List (Nat × Option MObj)
 | _=>[(0,some (.cells [.fn 100 [.p 1 0]])),(1,some (.cells [.int .i64 p1,.int .i64 p2,.int .i64 p3,.int .i64 p4,.int .i64 p5,.int .i64 p6,.int .i64 p7,.int .i64 p8,.int .i64 p9,.int .i64 p10]))]
theorem subband_shaped_int_1.ok {K : Nat} {p0 p1 p2 p3 p4 p5 p6 p7 p8 p9 p10 : Int} {r : Bool} (h0 : subband_shaped_int_1 K p0 p1 p2 p3 p4 p5 p6 p7 p8 p9 p10 = some r) : Fn Tryz.prog 154 [.int .i64 p0,.p 0 0] [(0,some (.cells [.fn 100 [.p 1 0]])),(1,some (.cells [.int .i64 p1,.int .i64 p2,.int .i64 p3,.int .i64 p4,.int .i64 p5,.int .i64 p6,.int .i64 p7,.int .i64 p8,.int .i64 p9,.int .i64 p10]))] (subband_shaped_int_1.res p0 p1 p2 p3 p4 p5 p6 p7 p8 p9 p10 r) (subband_shaped_int_1.out p0 p1 p2 p3 p4 p5 p6 p7 p8 p9 p10 r):=by
 refine Fn_of Tryz.func154 rfl (Nat.le_of_ble_eq_true rfl) fun Γ=>?_
 refine zr ?_
 refine zv 1 rfl ⟨tv,tv⟩ ?_
 refine zn ?_
 refine zv 2 rfl ⟨⟨tv,tv⟩,tv,tv⟩ ?_
 obtain ⟨r2,hr,h0⟩:=bnd h0
 refine TL_callB [(0,1)] (subband_Params_share_2.ok0 hr) subband_Params_share_2.fnb rfl ⟨tv,⟨tv,tv⟩⟩ rfl ⟨.inr rfl,tv⟩ rfl ?_
 refine zv 2 rfl ⟨tv,tv,tv⟩ ?_
 refine ze ?_
 refine TC_ret ?_
 obtain rfl:=sinj h0
 exact TE_ret env rfl tv ⟨.inr rfl,.inr rfl,tv⟩
theorem subband_shaped_int_1.ok0 {K : Nat} {p0 p1 p2 p3 p4 p5 p6 p7 p8 p9 p10 : Int} {q0 : Bool} (h0 : subband_shaped_int_1 K p0 p1 p2 p3 p4 p5 p6 p7 p8 p9 p10 = some q0) : Fn Tryz.prog 154 [.int .i64 p0,.p 0 0] [(0,some (.cells [.fn 100 [.p 1 0]])),(1,some (.cells [.int .i64 p1,.int .i64 p2,.int .i64 p3,.int .i64 p4,.int .i64 p5,.int .i64 p6,.int .i64 p7,.int .i64 p8,.int .i64 p9,.int .i64 p10]))] (.bool q0) [(0,some (.cells [.fn 100 [.p 1 0]])),(1,some (.cells [.int .i64 p1,.int .i64 p2,.int .i64 p3,.int .i64 p4,.int .i64 p5,.int .i64 p6,.int .i64 p7,.int .i64 p8,.int .i64 p9,.int .i64 p10]))]:=subband_shaped_int_1.ok h0
theorem subband_shaped_int_1.fnb : fnb Tryz.prog 154 = true:=fnb_of Tryz.func154 rfl
def slices_IndexFunc_int_int.res (_p0 : List Int) (_p1 _p2 _p3 _p4 _p5 _p6 _p7 _p8 _p9 _p10 : Int) : Int → MV
 | q0=>.int .i64 q0
def slices_IndexFunc_int_int.out (_p0 : List Int) (p1 p2 p3 p4 p5 p6 p7 p8 p9 p10 : Int) : Int → List (Nat × Option MObj)
 | _=>[(0,some (.cells [.fn 100 [.p 1 0]])),(1,some (.cells [.int .i64 p1,.int .i64 p2,.int .i64 p3,.int .i64 p4,.int .i64 p5,.int .i64 p6,.int .i64 p7,.int .i64 p8,.int .i64 p9,.int .i64 p10]))]
theorem slices_IndexFunc_int_int.ok {K : Nat} {p0 : List Int} {p1 p2 p3 p4 p5 p6 p7 p8 p9 p10 r : Int} (h0 : slices_IndexFunc_int_int K p0 p1 p2 p3 p4 p5 p6 p7 p8 p9 p10 = some r) : Fn Tryz.prog 185 [.im (.slice (.int .i64)) p0,.fn 154 [.p 0 0]] [(0,some (.cells [.fn 100 [.p 1 0]])),(1,some (.cells [.int .i64 p1,.int .i64 p2,.int .i64 p3,.int .i64 p4,.int .i64 p5,.int .i64 p6,.int .i64 p7,.int .i64 p8,.int .i64 p9,.int .i64 p10]))] (slices_IndexFunc_int_int.res p0 p1 p2 p3 p4 p5 p6 p7 p8 p9 p10 r) (slices_IndexFunc_int_int.out p0 p1 p2 p3 p4 p5 p6 p7 p8 p9 p10 r):=by
 refine Fn_of Tryz.func185 rfl (Nat.le_of_ble_eq_true rfl) fun Γ=>?_
 refine zr ?_
 refine zv 1 rfl ⟨tv,tv⟩ ?_
 refine ze ?_
 refine TC_seq ?_
 refine zr ?_
 refine zv 3 rfl ⟨tv,⟨tv,tv⟩,tv,tv⟩ ?_
 refine ze ?_
 obtain ⟨z1,h1,h0⟩:=bnd h0
 refine TC_cut (α:=Unit) (fun _=>z1 = .inl ()) (fun _=>[]) (fun _=>[(0,some (.cells [.fn 100 [.p 1 0]])),(1,some (.cells [.int .i64 p1,.int .i64 p2,.int .i64 p3,.int .i64 p4,.int .i64 p5,.int .i64 p6,.int .i64 p7,.int .i64 p8,.int .i64 p9,.int .i64 p10]))]) ?_ ?_
 ·refine TC_blk ?_
  refine TC_loop (α:=Int) (fun n s=>slices_IndexFunc_int_int.l0 K p0 (p0.length : Int) p1 p2 p3 p4 p5 p6 p7 p8 p9 p10 n s = some z1) (fun s=>[(0,.im (.slice (.int .i64)) p0),(1,.fn 154 [.p 0 0]),(7,.int .i64 (p0.length : Int)),(8,.int .i64 s)]) (fun s=>[(0,some (.cells [.fn 100 [.p 1 0]])),(1,some (.cells [.int .i64 p1,.int .i64 p2,.int .i64 p3,.int .i64 p4,.int .i64 p5,.int .i64 p6,.int .i64 p7,.int .i64 p8,.int .i64 p9,.int .i64 p10]))]) K ?_ ?_
  ·exact SP_ren [] _ h1 ⟨rfl,rfl,rfl,rfl,tv⟩ ⟨rfl,rfl,tv⟩ rfl
  rintro n x15 h1
  rcases n with _ | n
  ·exact (nsome h1).elim
  replace h1 : slices_IndexFunc_int_int.r0 K p0 (p0.length : Int) p1 p2 p3 p4 p5 p6 p7 p8 p9 p10 (slices_IndexFunc_int_int.l0 K p0 (p0.length : Int) p1 p2 p3 p4 p5 p6 p7 p8 p9 p10 n) x15 = some z1:=h1
  refine zr ?_
  refine zv 1 rfl ⟨⟨tv,tv,tv⟩,tv⟩ ?_
  refine ze ?_
  refine TC_seq ?_
  refine TC_cond rfl (fun hb=>?_) (fun hb=>?_)
  ·replace h1:=bif_t h1 hb
   refine TC_skip ?_
   refine TE_go ?_
   refine TC_seq ?_
   refine TC_blk ?_
   refine zr ?_
   refine zv 2 rfl ⟨tv,tv,tv⟩ ?_
   refine zn ?_
   obtain ⟨g,h1⟩:=gd_t h1
   refine zv 5 rfl ⟨tv,tv,tv,⟨tv,tv,g.1,g.2⟩,⟨tv,tv⟩,tv⟩ ?_
   obtain ⟨r22,hr,h1⟩:=bnd h1
   refine TL_callB [(0,0),(1,1)] (subband_shaped_int_1.ok0 hr) subband_shaped_int_1.fnb rfl ⟨tv,⟨tv,tv⟩⟩ rfl ⟨.inr rfl,.inr rfl,tv⟩ rfl ?_
   refine ze ?_
   refine TC_cond rfl (fun hb=>?_) (fun hb=>?_)
   ·replace h1:=bif_t h1 hb
    refine zr ?_
    refine zv 2 rfl ⟨tv,tv,tv⟩ ?_
    refine ze ?_
    refine TC_ret ?_
    refine tbr ?_
    refine tsr ?_
    refine tsr ?_
    refine tbr ?_
    refine tsr ?_
    refine tsr ?_
    obtain rfl:=sinj h1
    obtain rfl:=sinj h0
    exact TE_ret env rfl tv ⟨.inr rfl,.inr rfl,tv⟩
   ·replace h1:=bif_f h1 hb
    refine TC_skip ?_
    refine tbn ?_
    refine zt ?_
    refine zv 2 rfl ⟨⟨tv,tv,tv⟩,tv,tv⟩ ?_
    refine zm ?_
    exact TE_nextr [] n (zs n) _ h1 ⟨rfl,rfl,rfl,rfl,tv⟩ ⟨rfl,rfl,tv⟩ rfl
  ·replace h1:=bif_f h1 hb
   refine TC_exit ?_
   refine tsx ?_
   refine tsx ?_
   refine tbe ?_
   obtain rfl:=sinj h1
   refine tsn ?_
   exact SP_ren [] () rfl tv ⟨rfl,rfl,tv⟩ rfl
 ·rintro ⟨⟩ rfl
  refine zg ?_
  refine zv 1 rfl ⟨tv,tv⟩ ?_
  refine ze ?_
  refine TC_ret ?_
  obtain rfl:=sinj h0
  exact TE_ret env rfl tv ⟨.inr rfl,.inr rfl,tv⟩
theorem slices_IndexFunc_int_int.ok0 {K : Nat} {p0 : List Int} {p1 p2 p3 p4 p5 p6 p7 p8 p9 p10 q0 : Int} (h0 : slices_IndexFunc_int_int K p0 p1 p2 p3 p4 p5 p6 p7 p8 p9 p10 = some q0) : Fn Tryz.prog 185 [.im (.slice (.int .i64)) p0,.fn 154 [.p 0 0]] [(0,some (.cells [.fn 100 [.p 1 0]])),(1,some (.cells [.int .i64 p1,.int .i64 p2,.int .i64 p3,.int .i64 p4,.int .i64 p5,.int .i64 p6,.int .i64 p7,.int .i64 p8,.int .i64 p9,.int .i64 p10]))] (.int .i64 q0) [(0,some (.cells [.fn 100 [.p 1 0]])),(1,some (.cells [.int .i64 p1,.int .i64 p2,.int .i64 p3,.int .i64 p4,.int .i64 p5,.int .i64 p6,.int .i64 p7,.int .i64 p8,.int .i64 p9,.int .i64 p10]))]:=slices_IndexFunc_int_int.ok h0
theorem slices_IndexFunc_int_int.fnb : fnb Tryz.prog 185 = true:=fnb_of Tryz.func185 rfl
def slices_ContainsFunc_int_int.res (_p0 : List Int) (_p1 _p2 _p3 _p4 _p5 _p6 _p7 _p8 _p9 _p10 : Int) : Bool → MV
 | q0=>.bool q0
def slices_ContainsFunc_int_int.out (_p0 : List Int) (p1 p2 p3 p4 p5 p6 p7 p8 p9 p10 : Int) : Bool → List (Nat × Option MObj)
 | _=>[(0,some (.cells [.fn 100 [.p 1 0]])),(1,some (.cells [.int .i64 p1,.int .i64 p2,.int .i64 p3,.int .i64 p4,.int .i64 p5,.int .i64 p6,.int .i64 p7,.int .i64 p8,.int .i64 p9,.int .i64 p10]))]
theorem slices_ContainsFunc_int_int.ok {K : Nat} {p0 : List Int} {p1 p2 p3 p4 p5 p6 p7 p8 p9 p10 : Int} {r : Bool} (h0 : slices_ContainsFunc_int_int K p0 p1 p2 p3 p4 p5 p6 p7 p8 p9 p10 = some r) : Fn Tryz.prog 153 [.im (.slice (.int .i64)) p0,.fn 154 [.p 0 0]] [(0,some (.cells [.fn 100 [.p 1 0]])),(1,some (.cells [.int .i64 p1,.int .i64 p2,.int .i64 p3,.int .i64 p4,.int .i64 p5,.int .i64 p6,.int .i64 p7,.int .i64 p8,.int .i64 p9,.int .i64 p10]))] (slices_ContainsFunc_int_int.res p0 p1 p2 p3 p4 p5 p6 p7 p8 p9 p10 r) (slices_ContainsFunc_int_int.out p0 p1 p2 p3 p4 p5 p6 p7 p8 p9 p10 r):=by
 refine Fn_of Tryz.func153 rfl (Nat.le_of_ble_eq_true rfl) fun Γ=>?_
 refine zr ?_
 refine zv 1 rfl ⟨tv,tv⟩ ?_
 refine zn ?_
 refine zv 2 rfl ⟨tv,tv,tv⟩ ?_
 obtain ⟨r2,hr,h0⟩:=bnd h0
 refine TL_callB [(0,0),(1,1)] (slices_IndexFunc_int_int.ok0 hr) slices_IndexFunc_int_int.fnb rfl ⟨tv,⟨tv,⟨tv,tv⟩⟩⟩ rfl ⟨.inr rfl,.inr rfl,tv⟩ rfl ?_
 refine zv 2 rfl ⟨⟨tv,tv,tv⟩,tv,tv⟩ ?_
 refine ze ?_
 refine TC_ret ?_
 obtain rfl:=sinj h0
 exact TE_ret env rfl tv ⟨.inr rfl,.inr rfl,tv⟩
theorem slices_ContainsFunc_int_int.ok0 {K : Nat} {p0 : List Int} {p1 p2 p3 p4 p5 p6 p7 p8 p9 p10 : Int} {q0 : Bool} (h0 : slices_ContainsFunc_int_int K p0 p1 p2 p3 p4 p5 p6 p7 p8 p9 p10 = some q0) : Fn Tryz.prog 153 [.im (.slice (.int .i64)) p0,.fn 154 [.p 0 0]] [(0,some (.cells [.fn 100 [.p 1 0]])),(1,some (.cells [.int .i64 p1,.int .i64 p2,.int .i64 p3,.int .i64 p4,.int .i64 p5,.int .i64 p6,.int .i64 p7,.int .i64 p8,.int .i64 p9,.int .i64 p10]))] (.bool q0) [(0,some (.cells [.fn 100 [.p 1 0]])),(1,some (.cells [.int .i64 p1,.int .i64 p2,.int .i64 p3,.int .i64 p4,.int .i64 p5,.int .i64 p6,.int .i64 p7,.int .i64 p8,.int .i64 p9,.int .i64 p10]))]:=slices_ContainsFunc_int_int.ok h0
theorem slices_ContainsFunc_int_int.fnb : fnb Tryz.prog 153 = true:=fnb_of Tryz.func153 rfl
def subband_shaped_int.res (_p0 : List Int) (_p1 _p2 _p3 _p4 _p5 _p6 _p7 _p8 _p9 _p10 _p11 : Int) : Bool → MV
 | q0=>.bool q0
def subband_shaped_int.out (_p0 : List Int) (_p1 p2 p3 p4 p5 p6 p7 p8 p9 p10 p11 : Int) : Bool → List (Nat × Option MObj)
 | _=>[(0,some (.cells [.int .i64 p2,.int .i64 p3,.int .i64 p4,.int .i64 p5,.int .i64 p6,.int .i64 p7,.int .i64 p8,.int .i64 p9,.int .i64 p10,.int .i64 p11]))]
theorem subband_shaped_int.ok {K : Nat} {p0 : List Int} {p1 p2 p3 p4 p5 p6 p7 p8 p9 p10 p11 : Int} {r : Bool} (h0 : subband_shaped_int K p0 p1 p2 p3 p4 p5 p6 p7 p8 p9 p10 p11 = some r) : Fn Tryz.prog 101 [.im (.slice (.int .i64)) p0,.int .i64 p1,.fn 100 [.p 0 0]] [(0,some (.cells [.int .i64 p2,.int .i64 p3,.int .i64 p4,.int .i64 p5,.int .i64 p6,.int .i64 p7,.int .i64 p8,.int .i64 p9,.int .i64 p10,.int .i64 p11]))] (subband_shaped_int.res p0 p1 p2 p3 p4 p5 p6 p7 p8 p9 p10 p11 r) (subband_shaped_int.out p0 p1 p2 p3 p4 p5 p6 p7 p8 p9 p10 p11 r):=by
 refine Fn_of Tryz.func101 rfl (Nat.le_of_ble_eq_true rfl) fun Γ=>?_
 refine zr ?_
 refine zv 2 rfl ⟨tv,tv,tv⟩ ?_
 refine ze ?_
 refine TC_seq ?_
 obtain ⟨z1,h1,h0⟩:=bnd h0
 refine TC_cut (α:=Bool) (fun s=>z1 = s) (fun s=>[(6,.bool s)]) (fun s=>[(0,some (.cells [.int .i64 p2,.int .i64 p3,.int .i64 p4,.int .i64 p5,.int .i64 p6,.int .i64 p7,.int .i64 p8,.int .i64 p9,.int .i64 p10,.int .i64 p11]))]) ?_ ?_
 ·refine TC_reg ?_
  refine zv 5 rfl ⟨tv,⟨tv,tv⟩,tv,⟨tv,tv,tv⟩,tv,tv⟩ ?_
  refine TL_split 11 rfl (fun hb=>?_) (fun hb=>?_)
  ·replace h1:=bif_t h1 hb
   refine TL_gt rfl rfl rfl rfl ?_
   refine zv 1 rfl ⟨tv,tv⟩ ?_
   refine TL_gt rfl rfl rfl rfl ?_
   refine zv 1 rfl ⟨⟨tv,tv⟩,tv⟩ ?_
   refine TL_gt rfl rfl rfl rfl ?_
   obtain ⟨r6,hr,h1⟩:=bnd h1
   refine TL_callB [(0,1005),(1,0)] (slices_ContainsFunc_int_int.ok0 hr) slices_ContainsFunc_int_int.fnb rfl ⟨tv,⟨tv,⟨tv,tv⟩⟩⟩ rfl ⟨.inr rfl,.inr rfl,tv⟩ rfl ?_
   refine TL_gt rfl rfl rfl rfl ?_
   refine zv 3 rfl ⟨tv,⟨tv,tv,tv⟩,tv,tv⟩ ?_
   refine TL_end ?_
   obtain rfl:=sinj h1
   refine tsn ?_
   exact SP_ren [] _ rfl ⟨rfl,tv⟩ ⟨rfl,tv⟩ rfl
  ·replace h1:=bif_f h1 hb
   refine TL_gf (.bool false) rfl rfl rfl rfl rfl (by decide) ?_
   refine TL_gf (.bool false) rfl rfl rfl rfl rfl (by decide) ?_
   refine TL_gf (.bool false) rfl rfl rfl rfl rfl (by decide) ?_
   refine TL_gf (.bool false) rfl rfl rfl rfl rfl (by decide) ?_
   refine zv 2 rfl ⟨⟨tv,fun e=>e,tv⟩,tv,tv⟩ ?_
   refine TL_end ?_
   obtain rfl:=sinj h1
   refine tsn ?_
   exact SP_ren [] _ rfl ⟨rfl,tv⟩ ⟨rfl,tv⟩ rfl
 ·rintro x4 hz
  obtain rfl:=hz.symm
  refine zu ?_
  obtain rfl:=sinj h0
  exact TE_ret env rfl tv ⟨.inr rfl,tv⟩
theorem subband_shaped_int.ok0 {K : Nat} {p0 : List Int} {p1 p2 p3 p4 p5 p6 p7 p8 p9 p10 p11 : Int} {q0 : Bool} (h0 : subband_shaped_int K p0 p1 p2 p3 p4 p5 p6 p7 p8 p9 p10 p11 = some q0) : Fn Tryz.prog 101 [.im (.slice (.int .i64)) p0,.int .i64 p1,.fn 100 [.p 0 0]] [(0,some (.cells [.int .i64 p2,.int .i64 p3,.int .i64 p4,.int .i64 p5,.int .i64 p6,.int .i64 p7,.int .i64 p8,.int .i64 p9,.int .i64 p10,.int .i64 p11]))] (.bool q0) [(0,some (.cells [.int .i64 p2,.int .i64 p3,.int .i64 p4,.int .i64 p5,.int .i64 p6,.int .i64 p7,.int .i64 p8,.int .i64 p9,.int .i64 p10,.int .i64 p11]))]:=subband_shaped_int.ok h0
theorem subband_shaped_int.fnb : fnb Tryz.prog 101 = true:=fnb_of Tryz.func101 rfl
def subband_Params_share_1.res (_p0 : Int) : Bool → MV
 | q0=>.bool q0
def subband_Params_share_1.out (_p0 : Int) : Bool → List (Nat × Option MObj)
 | _=>[]
theorem subband_Params_share_1.ok {K : Nat} {p0 : Int} {r : Bool} (h0 : subband_Params_share_1 K p0 = some r) : Fn Tryz.prog 99 [.int .i64 p0] [] (subband_Params_share_1.res p0 r) (subband_Params_share_1.out p0 r):=by
 refine Fn_of Tryz.func99 rfl (Nat.le_of_ble_eq_true rfl) fun Γ=>?_
 refine zr ?_
 refine zv 1 rfl ⟨tv,tv⟩ ?_
 refine zn ?_
 refine zv 3 rfl ⟨tv,⟨tv,tv,tv⟩,tv,tv⟩ ?_
 refine ze ?_
 refine TC_ret ?_
 obtain rfl:=sinj h0
 exact TE_ret env rfl tv tv
theorem subband_Params_share_1.ok0 {K : Nat} {p0 : Int} {q0 : Bool} (h0 : subband_Params_share_1 K p0 = some q0) : Fn Tryz.prog 99 [.int .i64 p0] [] (.bool q0) []:=subband_Params_share_1.ok h0
theorem subband_Params_share_1.fnb : fnb Tryz.prog 99 = true:=fnb_of Tryz.func99 rfl
def subband_Params_share_3.res (_p0 : List (List Int)) (_p1 _p2 _p3 _p4 _p5 _p6 _p7 _p8 _p9 _p10 : Int) : Bool → MV
 | q0=>.bool q0
def subband_Params_share_3.out (_p0 : List (List Int)) (p1 p2 p3 p4 p5 p6 p7 p8 p9 p10 : Int) : Bool → List (Nat × Option MObj)
 | _=>[(0,some (.cells [.int .i64 p1,.int .i64 p2,.int .i64 p3,.int .i64 p4,.int .i64 p5,.int .i64 p6,.int .i64 p7,.int .i64 p8,.int .i64 p9,.int .i64 p10]))]
theorem subband_Params_share_3.ok {K : Nat} {p0 : List (List Int)} {p1 p2 p3 p4 p5 p6 p7 p8 p9 p10 : Int} {r : Bool} (h0 : subband_Params_share_3 K p0 p1 p2 p3 p4 p5 p6 p7 p8 p9 p10 = some r) : Fn Tryz.prog 103 [.im (.slice (.slice (.int .i64))) p0,.p 0 0] [(0,some (.cells [.int .i64 p1,.int .i64 p2,.int .i64 p3,.int .i64 p4,.int .i64 p5,.int .i64 p6,.int .i64 p7,.int .i64 p8,.int .i64 p9,.int .i64 p10]))] (subband_Params_share_3.res p0 p1 p2 p3 p4 p5 p6 p7 p8 p9 p10 r) (subband_Params_share_3.out p0 p1 p2 p3 p4 p5 p6 p7 p8 p9 p10 r):=by
 refine Fn_of Tryz.func103 rfl (Nat.le_of_ble_eq_true rfl) fun Γ=>?_
 refine zr ?_
 refine zv 1 rfl ⟨tv,tv⟩ ?_
 refine zn ?_
 refine zv 6 rfl ⟨tv,⟨tv,tv⟩,tv,⟨tv,tv⟩,⟨tv,tv,tv⟩,tv,tv⟩ ?_
 refine ze ?_
 refine TC_ret ?_
 obtain rfl:=sinj h0
 exact TE_ret env rfl tv ⟨.inr rfl,tv⟩
theorem subband_Params_share_3.ok0 {K : Nat} {p0 : List (List Int)} {p1 p2 p3 p4 p5 p6 p7 p8 p9 p10 : Int} {q0 : Bool} (h0 : subband_Params_share_3 K p0 p1 p2 p3 p4 p5 p6 p7 p8 p9 p10 = some q0) : Fn Tryz.prog 103 [.im (.slice (.slice (.int .i64))) p0,.p 0 0] [(0,some (.cells [.int .i64 p1,.int .i64 p2,.int .i64 p3,.int .i64 p4,.int .i64 p5,.int .i64 p6,.int .i64 p7,.int .i64 p8,.int .i64 p9,.int .i64 p10]))] (.bool q0) [(0,some (.cells [.int .i64 p1,.int .i64 p2,.int .i64 p3,.int .i64 p4,.int .i64 p5,.int .i64 p6,.int .i64 p7,.int .i64 p8,.int .i64 p9,.int .i64 p10]))]:=subband_Params_share_3.ok h0
theorem subband_Params_share_3.fnb : fnb Tryz.prog 103 = true:=fnb_of Tryz.func103 rfl
def subband_shaped_int_1_2.res (_p0 : List (List Int)) (_p1 _p2 _p3 _p4 _p5 _p6 _p7 _p8 _p9 _p10 : Int) : Bool → MV
 | q0=>.bool q0
def subband_shaped_int_1_2.out (_p0 : List (List Int)) (p1 p2 p3 p4 p5 p6 p7 p8 p9 p10 : Int) : Bool → List (Nat × Option MObj)
 | _=>[(0,some (.cells [.fn 103 [.p 1 0]])),(1,some (.cells [.int .i64 p1,.int .i64 p2,.int .i64 p3,.int .i64 p4,.int .i64 p5,.int .i64 p6,.int .i64 p7,.int .i64 p8,.int .i64 p9,.int .i64 p10]))]
theorem subband_shaped_int_1_2.ok {K : Nat} {p0 : List (List Int)} {p1 p2 p3 p4 p5 p6 p7 p8 p9 p10 : Int} {r : Bool} (h0 : subband_shaped_int_1_2 K p0 p1 p2 p3 p4 p5 p6 p7 p8 p9 p10 = some r) : Fn Tryz.prog 156 [.im (.slice (.slice (.int .i64))) p0,.p 0 0] [(0,some (.cells [.fn 103 [.p 1 0]])),(1,some (.cells [.int .i64 p1,.int .i64 p2,.int .i64 p3,.int .i64 p4,.int .i64 p5,.int .i64 p6,.int .i64 p7,.int .i64 p8,.int .i64 p9,.int .i64 p10]))] (subband_shaped_int_1_2.res p0 p1 p2 p3 p4 p5 p6 p7 p8 p9 p10 r) (subband_shaped_int_1_2.out p0 p1 p2 p3 p4 p5 p6 p7 p8 p9 p10 r):=by
 refine Fn_of Tryz.func156 rfl (Nat.le_of_ble_eq_true rfl) fun Γ=>?_
 unfold subband_shaped_int_1_2 at h0
 refine zr ?_
 refine zv 1 rfl ⟨tv,tv⟩ ?_
 refine zn ?_
 refine zv 2 rfl ⟨⟨tv,tv⟩,tv,tv⟩ ?_
 obtain ⟨r2,hr,h0⟩:=bnd h0
 refine TL_callB [(0,1)] (subband_Params_share_3.ok0 hr) subband_Params_share_3.fnb rfl ⟨tv,⟨tv,tv⟩⟩ rfl ⟨.inr rfl,tv⟩ rfl ?_
 refine zv 2 rfl ⟨tv,tv,tv⟩ ?_
 refine ze ?_
 refine TC_ret ?_
 obtain rfl:=sinj h0
 exact TE_ret env rfl tv ⟨.inr rfl,.inr rfl,tv⟩
theorem subband_shaped_int_1_2.ok0 {K : Nat} {p0 : List (List Int)} {p1 p2 p3 p4 p5 p6 p7 p8 p9 p10 : Int} {q0 : Bool} (h0 : subband_shaped_int_1_2 K p0 p1 p2 p3 p4 p5 p6 p7 p8 p9 p10 = some q0) : Fn Tryz.prog 156 [.im (.slice (.slice (.int .i64))) p0,.p 0 0] [(0,some (.cells [.fn 103 [.p 1 0]])),(1,some (.cells [.int .i64 p1,.int .i64 p2,.int .i64 p3,.int .i64 p4,.int .i64 p5,.int .i64 p6,.int .i64 p7,.int .i64 p8,.int .i64 p9,.int .i64 p10]))] (.bool q0) [(0,some (.cells [.fn 103 [.p 1 0]])),(1,some (.cells [.int .i64 p1,.int .i64 p2,.int .i64 p3,.int .i64 p4,.int .i64 p5,.int .i64 p6,.int .i64 p7,.int .i64 p8,.int .i64 p9,.int .i64 p10]))]:=subband_shaped_int_1_2.ok h0
theorem subband_shaped_int_1_2.fnb : fnb Tryz.prog 156 = true:=fnb_of Tryz.func156 rfl
def slices_IndexFunc_int_int_2.res (_p0 : List (List (List Int))) (_p1 _p2 _p3 _p4 _p5 _p6 _p7 _p8 _p9 _p10 : Int) : Int → MV
 | q0=>.int .i64 q0
def slices_IndexFunc_int_int_2.out (_p0 : List (List (List Int))) (p1 p2 p3 p4 p5 p6 p7 p8 p9 p10 : Int) : Int → List (Nat × Option MObj)
 | _=>[(0,some (.cells [.fn 103 [.p 1 0]])),(1,some (.cells [.int .i64 p1,.int .i64 p2,.int .i64 p3,.int .i64 p4,.int .i64 p5,.int .i64 p6,.int .i64 p7,.int .i64 p8,.int .i64 p9,.int .i64 p10]))]
theorem slices_IndexFunc_int_int_2.ok {K : Nat} {p0 : List (List (List Int))} {p1 p2 p3 p4 p5 p6 p7 p8 p9 p10 r : Int} (h0 : slices_IndexFunc_int_int_2 K p0 p1 p2 p3 p4 p5 p6 p7 p8 p9 p10 = some r) : Fn Tryz.prog 186 [.im (.slice (.slice (.slice (.int .i64)))) p0,.fn 156 [.p 0 0]] [(0,some (.cells [.fn 103 [.p 1 0]])),(1,some (.cells [.int .i64 p1,.int .i64 p2,.int .i64 p3,.int .i64 p4,.int .i64 p5,.int .i64 p6,.int .i64 p7,.int .i64 p8,.int .i64 p9,.int .i64 p10]))] (slices_IndexFunc_int_int_2.res p0 p1 p2 p3 p4 p5 p6 p7 p8 p9 p10 r) (slices_IndexFunc_int_int_2.out p0 p1 p2 p3 p4 p5 p6 p7 p8 p9 p10 r):=by
 refine Fn_of Tryz.func186 rfl (Nat.le_of_ble_eq_true rfl) fun Γ=>?_
 unfold slices_IndexFunc_int_int_2 at h0
 refine zr ?_
 refine zv 1 rfl ⟨tv,tv⟩ ?_
 refine ze ?_
 refine TC_seq ?_
 refine zr ?_
 refine zv 3 rfl ⟨tv,⟨tv,tv⟩,tv,tv⟩ ?_
 refine ze ?_
 obtain ⟨z1,h1,h0⟩:=bnd h0
 refine TC_cut (α:=Unit) (fun _=>z1 = .inl ()) (fun _=>[]) (fun _=>[(0,some (.cells [.fn 103 [.p 1 0]])),(1,some (.cells [.int .i64 p1,.int .i64 p2,.int .i64 p3,.int .i64 p4,.int .i64 p5,.int .i64 p6,.int .i64 p7,.int .i64 p8,.int .i64 p9,.int .i64 p10]))]) ?_ ?_
 ·refine TC_blk ?_
  refine TC_loop (α:=Int) (fun n s=>slices_IndexFunc_int_int_2.l0 K p0 (p0.length : Int) p1 p2 p3 p4 p5 p6 p7 p8 p9 p10 n s = some z1) (fun s=>[(0,.im (.slice (.slice (.slice (.int .i64)))) p0),(1,.fn 156 [.p 0 0]),(7,.int .i64 (p0.length : Int)),(8,.int .i64 s)]) (fun s=>[(0,some (.cells [.fn 103 [.p 1 0]])),(1,some (.cells [.int .i64 p1,.int .i64 p2,.int .i64 p3,.int .i64 p4,.int .i64 p5,.int .i64 p6,.int .i64 p7,.int .i64 p8,.int .i64 p9,.int .i64 p10]))]) K ?_ ?_
  ·exact SP_ren [] _ h1 ⟨rfl,rfl,rfl,rfl,tv⟩ ⟨rfl,rfl,tv⟩ rfl
  rintro n x15 h1
  rcases n with _ | n
  ·exact (nsome h1).elim
  replace h1 : slices_IndexFunc_int_int_2.r0 K p0 (p0.length : Int) p1 p2 p3 p4 p5 p6 p7 p8 p9 p10 (slices_IndexFunc_int_int_2.l0 K p0 (p0.length : Int) p1 p2 p3 p4 p5 p6 p7 p8 p9 p10 n) x15 = some z1:=h1
  refine zr ?_
  refine zv 1 rfl ⟨⟨tv,tv,tv⟩,tv⟩ ?_
  refine ze ?_
  refine TC_seq ?_
  refine TC_cond rfl (fun hb=>?_) (fun hb=>?_)
  ·replace h1:=bif_t h1 hb
   refine TC_skip ?_
   refine TE_go ?_
   refine TC_seq ?_
   refine TC_blk ?_
   refine zr ?_
   refine zv 2 rfl ⟨tv,tv,tv⟩ ?_
   refine zn ?_
   obtain ⟨g,h1⟩:=gd_t h1
   refine zv 5 rfl ⟨tv,tv,tv,⟨tv,tv,g.1,g.2⟩,⟨tv,tv⟩,tv⟩ ?_
   obtain ⟨r22,hr,h1⟩:=bnd h1
   refine TL_callB [(0,0),(1,1)] (subband_shaped_int_1_2.ok0 hr) subband_shaped_int_1_2.fnb rfl ⟨tv,⟨tv,tv⟩⟩ rfl ⟨.inr rfl,.inr rfl,tv⟩ rfl ?_
   refine ze ?_
   refine TC_cond rfl (fun hb=>?_) (fun hb=>?_)
   ·replace h1:=bif_t h1 hb
    refine zr ?_
    refine zv 2 rfl ⟨tv,tv,tv⟩ ?_
    refine ze ?_
    refine TC_ret ?_
    refine tbr ?_
    refine tsr ?_
    refine tsr ?_
    refine tbr ?_
    refine tsr ?_
    refine tsr ?_
    obtain rfl:=sinj h1
    obtain rfl:=sinj h0
    exact TE_ret env rfl tv ⟨.inr rfl,.inr rfl,tv⟩
   ·replace h1:=bif_f h1 hb
    refine TC_skip ?_
    refine tbn ?_
    refine zt ?_
    refine zv 2 rfl ⟨⟨tv,tv,tv⟩,tv,tv⟩ ?_
    refine zm ?_
    exact TE_nextr [] n (zs n) _ h1 ⟨rfl,rfl,rfl,rfl,tv⟩ ⟨rfl,rfl,tv⟩ rfl
  ·replace h1:=bif_f h1 hb
   refine TC_exit ?_
   refine tsx ?_
   refine tsx ?_
   refine tbe ?_
   obtain rfl:=sinj h1
   refine tsn ?_
   exact SP_ren [] () rfl tv ⟨rfl,rfl,tv⟩ rfl
 ·rintro ⟨⟩ rfl
  refine zg ?_
  refine zv 1 rfl ⟨tv,tv⟩ ?_
  refine ze ?_
  refine TC_ret ?_
  obtain rfl:=sinj h0
  exact TE_ret env rfl tv ⟨.inr rfl,.inr rfl,tv⟩
theorem slices_IndexFunc_int_int_2.ok0 {K : Nat} {p0 : List (List (List Int))} {p1 p2 p3 p4 p5 p6 p7 p8 p9 p10 q0 : Int} (h0 : slices_IndexFunc_int_int_2 K p0 p1 p2 p3 p4 p5 p6 p7 p8 p9 p10 = some q0) : Fn Tryz.prog 186 [.im (.slice (.slice (.slice (.int .i64)))) p0,.fn 156 [.p 0 0]] [(0,some (.cells [.fn 103 [.p 1 0]])),(1,some (.cells [.int .i64 p1,.int .i64 p2,.int .i64 p3,.int .i64 p4,.int .i64 p5,.int .i64 p6,.int .i64 p7,.int .i64 p8,.int .i64 p9,.int .i64 p10]))] (.int .i64 q0) [(0,some (.cells [.fn 103 [.p 1 0]])),(1,some (.cells [.int .i64 p1,.int .i64 p2,.int .i64 p3,.int .i64 p4,.int .i64 p5,.int .i64 p6,.int .i64 p7,.int .i64 p8,.int .i64 p9,.int .i64 p10]))]:=slices_IndexFunc_int_int_2.ok h0
theorem slices_IndexFunc_int_int_2.fnb : fnb Tryz.prog 186 = true:=fnb_of Tryz.func186 rfl
def slices_ContainsFunc_int_int_2.res (_p0 : List (List (List Int))) (_p1 _p2 _p3 _p4 _p5 _p6 _p7 _p8 _p9 _p10 : Int) : Bool → MV
 | q0=>.bool q0
def slices_ContainsFunc_int_int_2.out (_p0 : List (List (List Int))) (p1 p2 p3 p4 p5 p6 p7 p8 p9 p10 : Int) : Bool → List (Nat × Option MObj)
 | _=>[(0,some (.cells [.fn 103 [.p 1 0]])),(1,some (.cells [.int .i64 p1,.int .i64 p2,.int .i64 p3,.int .i64 p4,.int .i64 p5,.int .i64 p6,.int .i64 p7,.int .i64 p8,.int .i64 p9,.int .i64 p10]))]
theorem slices_ContainsFunc_int_int_2.ok {K : Nat} {p0 : List (List (List Int))} {p1 p2 p3 p4 p5 p6 p7 p8 p9 p10 : Int} {r : Bool} (h0 : slices_ContainsFunc_int_int_2 K p0 p1 p2 p3 p4 p5 p6 p7 p8 p9 p10 = some r) : Fn Tryz.prog 155 [.im (.slice (.slice (.slice (.int .i64)))) p0,.fn 156 [.p 0 0]] [(0,some (.cells [.fn 103 [.p 1 0]])),(1,some (.cells [.int .i64 p1,.int .i64 p2,.int .i64 p3,.int .i64 p4,.int .i64 p5,.int .i64 p6,.int .i64 p7,.int .i64 p8,.int .i64 p9,.int .i64 p10]))] (slices_ContainsFunc_int_int_2.res p0 p1 p2 p3 p4 p5 p6 p7 p8 p9 p10 r) (slices_ContainsFunc_int_int_2.out p0 p1 p2 p3 p4 p5 p6 p7 p8 p9 p10 r):=by
 refine Fn_of Tryz.func155 rfl (Nat.le_of_ble_eq_true rfl) fun Γ=>?_
 refine zr ?_
 refine zv 1 rfl ⟨tv,tv⟩ ?_
 refine zn ?_
 refine zv 2 rfl ⟨tv,tv,tv⟩ ?_
 obtain ⟨r2,hr,h0⟩:=bnd h0
 refine TL_callB [(0,0),(1,1)] (slices_IndexFunc_int_int_2.ok0 hr) slices_IndexFunc_int_int_2.fnb rfl ⟨tv,⟨tv,⟨tv,tv⟩⟩⟩ rfl ⟨.inr rfl,.inr rfl,tv⟩ rfl ?_
 refine zv 2 rfl ⟨⟨tv,tv,tv⟩,tv,tv⟩ ?_
 refine ze ?_
 refine TC_ret ?_
 obtain rfl:=sinj h0
 exact TE_ret env rfl tv ⟨.inr rfl,.inr rfl,tv⟩
theorem slices_ContainsFunc_int_int_2.ok0 {K : Nat} {p0 : List (List (List Int))} {p1 p2 p3 p4 p5 p6 p7 p8 p9 p10 : Int} {q0 : Bool} (h0 : slices_ContainsFunc_int_int_2 K p0 p1 p2 p3 p4 p5 p6 p7 p8 p9 p10 = some q0) : Fn Tryz.prog 155 [.im (.slice (.slice (.slice (.int .i64)))) p0,.fn 156 [.p 0 0]] [(0,some (.cells [.fn 103 [.p 1 0]])),(1,some (.cells [.int .i64 p1,.int .i64 p2,.int .i64 p3,.int .i64 p4,.int .i64 p5,.int .i64 p6,.int .i64 p7,.int .i64 p8,.int .i64 p9,.int .i64 p10]))] (.bool q0) [(0,some (.cells [.fn 103 [.p 1 0]])),(1,some (.cells [.int .i64 p1,.int .i64 p2,.int .i64 p3,.int .i64 p4,.int .i64 p5,.int .i64 p6,.int .i64 p7,.int .i64 p8,.int .i64 p9,.int .i64 p10]))]:=slices_ContainsFunc_int_int_2.ok h0
theorem slices_ContainsFunc_int_int_2.fnb : fnb Tryz.prog 155 = true:=fnb_of Tryz.func155 rfl
def subband_shaped_int_2.res (_p0 : List (List (List Int))) (_p1 _p2 _p3 _p4 _p5 _p6 _p7 _p8 _p9 _p10 _p11 : Int) : Bool → MV
 | q0=>.bool q0
def subband_shaped_int_2.out (_p0 : List (List (List Int))) (_p1 p2 p3 p4 p5 p6 p7 p8 p9 p10 p11 : Int) : Bool → List (Nat × Option MObj)
 | _=>[(0,some (.cells [.int .i64 p2,.int .i64 p3,.int .i64 p4,.int .i64 p5,.int .i64 p6,.int .i64 p7,.int .i64 p8,.int .i64 p9,.int .i64 p10,.int .i64 p11]))]
theorem subband_shaped_int_2.ok {K : Nat} {p0 : List (List (List Int))} {p1 p2 p3 p4 p5 p6 p7 p8 p9 p10 p11 : Int} {r : Bool} (h0 : subband_shaped_int_2 K p0 p1 p2 p3 p4 p5 p6 p7 p8 p9 p10 p11 = some r) : Fn Tryz.prog 102 [.im (.slice (.slice (.slice (.int .i64)))) p0,.int .i64 p1,.fn 103 [.p 0 0]] [(0,some (.cells [.int .i64 p2,.int .i64 p3,.int .i64 p4,.int .i64 p5,.int .i64 p6,.int .i64 p7,.int .i64 p8,.int .i64 p9,.int .i64 p10,.int .i64 p11]))] (subband_shaped_int_2.res p0 p1 p2 p3 p4 p5 p6 p7 p8 p9 p10 p11 r) (subband_shaped_int_2.out p0 p1 p2 p3 p4 p5 p6 p7 p8 p9 p10 p11 r):=by
 refine Fn_of Tryz.func102 rfl (Nat.le_of_ble_eq_true rfl) fun Γ=>?_
 refine zr ?_
 refine zv 2 rfl ⟨tv,tv,tv⟩ ?_
 refine ze ?_
 refine TC_seq ?_
 obtain ⟨z1,h1,h0⟩:=bnd h0
 refine TC_cut (α:=Bool) (fun s=>z1 = s) (fun s=>[(6,.bool s)]) (fun s=>[(0,some (.cells [.int .i64 p2,.int .i64 p3,.int .i64 p4,.int .i64 p5,.int .i64 p6,.int .i64 p7,.int .i64 p8,.int .i64 p9,.int .i64 p10,.int .i64 p11]))]) ?_ ?_
 ·refine TC_reg ?_
  refine zv 5 rfl ⟨tv,⟨tv,tv⟩,tv,⟨tv,tv,tv⟩,tv,tv⟩ ?_
  refine TL_split 11 rfl (fun hb=>?_) (fun hb=>?_)
  ·replace h1:=bif_t h1 hb
   refine TL_gt rfl rfl rfl rfl ?_
   refine zv 1 rfl ⟨tv,tv⟩ ?_
   refine TL_gt rfl rfl rfl rfl ?_
   refine zv 1 rfl ⟨⟨tv,tv⟩,tv⟩ ?_
   refine TL_gt rfl rfl rfl rfl ?_
   obtain ⟨r6,hr,h1⟩:=bnd h1
   refine TL_callB [(0,1005),(1,0)] (slices_ContainsFunc_int_int_2.ok0 hr) slices_ContainsFunc_int_int_2.fnb rfl ⟨tv,⟨tv,⟨tv,tv⟩⟩⟩ rfl ⟨.inr rfl,.inr rfl,tv⟩ rfl ?_
   refine TL_gt rfl rfl rfl rfl ?_
   refine zv 3 rfl ⟨tv,⟨tv,tv,tv⟩,tv,tv⟩ ?_
   refine TL_end ?_
   obtain rfl:=sinj h1
   refine tsn ?_
   exact SP_ren [] _ rfl ⟨rfl,tv⟩ ⟨rfl,tv⟩ rfl
  ·replace h1:=bif_f h1 hb
   refine TL_gf (.bool false) rfl rfl rfl rfl rfl (by decide) ?_
   refine TL_gf (.bool false) rfl rfl rfl rfl rfl (by decide) ?_
   refine TL_gf (.bool false) rfl rfl rfl rfl rfl (by decide) ?_
   refine TL_gf (.bool false) rfl rfl rfl rfl rfl (by decide) ?_
   refine zv 2 rfl ⟨⟨tv,fun e=>e,tv⟩,tv,tv⟩ ?_
   refine TL_end ?_
   obtain rfl:=sinj h1
   refine tsn ?_
   exact SP_ren [] _ rfl ⟨rfl,tv⟩ ⟨rfl,tv⟩ rfl
 ·rintro x4 hz
  obtain rfl:=hz.symm
  refine zu ?_
  obtain rfl:=sinj h0
  exact TE_ret env rfl tv ⟨.inr rfl,tv⟩
theorem subband_shaped_int_2.ok0 {K : Nat} {p0 : List (List (List Int))} {p1 p2 p3 p4 p5 p6 p7 p8 p9 p10 p11 : Int} {q0 : Bool} (h0 : subband_shaped_int_2 K p0 p1 p2 p3 p4 p5 p6 p7 p8 p9 p10 p11 = some q0) : Fn Tryz.prog 102 [.im (.slice (.slice (.slice (.int .i64)))) p0,.int .i64 p1,.fn 103 [.p 0 0]] [(0,some (.cells [.int .i64 p2,.int .i64 p3,.int .i64 p4,.int .i64 p5,.int .i64 p6,.int .i64 p7,.int .i64 p8,.int .i64 p9,.int .i64 p10,.int .i64 p11]))] (.bool q0) [(0,some (.cells [.int .i64 p2,.int .i64 p3,.int .i64 p4,.int .i64 p5,.int .i64 p6,.int .i64 p7,.int .i64 p8,.int .i64 p9,.int .i64 p10,.int .i64 p11]))]:=subband_shaped_int_2.ok h0
theorem subband_shaped_int_2.fnb : fnb Tryz.prog 102 = true:=fnb_of Tryz.func102 rfl
def quant_may.res (_p0 _p1 : Int) : Bool → MV
 | q0=>.bool q0
def quant_may.out (_p0 _p1 : Int) : Bool → List (Nat × Option MObj)
 | _=>[]
theorem quant_may.ok {K : Nat} {p0 p1 : Int} {r : Bool} (h0 : quant_may K p0 p1 = some r) : Fn Tryz.prog 142 [.int .i64 p0,.int .i64 p1] [] (quant_may.res p0 p1 r) (quant_may.out p0 p1 r):=by
 refine Fn_of Tryz.func142 rfl (Nat.le_of_ble_eq_true rfl) fun Γ=>?_
 refine zr ?_
 refine zv 1 rfl ⟨tv,tv⟩ ?_
 refine zn ?_
 refine zv 19 rfl ⟨tv,⟨tv,tv,tv⟩,tv,fun eg=>tv,fun eg=>⟨fun e=>e,tv,tv⟩,⟨tv,fun e=>e,tv⟩,tv,fun eg=>tv,fun eg=>⟨fun e=>e,tv,tv⟩,fun eg=>fun e=>e,fun eg=>tv,fun eg=>⟨fun e=>e,tv,tv⟩,fun eg=>fun e=>e,fun eg=>tv,fun eg=>⟨fun e=>e,tv,tv⟩,fun eg=>⟨fun e=>e,((by decide : ∀ b0 b1 b2 b3 : Bool,((bif b1 then b2 else false) && (!b3)) = true → b0 = true → (((bif b1 then b2 else false) && (!b3)) && b0) = true) _ _ _ _ eg),tv⟩,fun eg=>⟨fun e=>e,tv,((by decide : ∀ b0 b1 b2 : Bool,(bif b1 then b2 else false) = true → (!b0) = true → ((bif b1 then b2 else false) && (!b0)) = true) _ _ _ eg)⟩,⟨tv,fun e=>e,tv⟩,tv,tv⟩ ?_
 refine ze ?_
 refine TC_ret ?_
 obtain rfl:=sinj h0
 exact TE_ret env rfl tv tv
theorem quant_may.ok0 {K : Nat} {p0 p1 : Int} {q0 : Bool} (h0 : quant_may K p0 p1 = some q0) : Fn Tryz.prog 142 [.int .i64 p0,.int .i64 p1] [] (.bool q0) []:=quant_may.ok h0
theorem quant_may.fnb : fnb Tryz.prog 142 = true:=fnb_of Tryz.func142 rfl
def quant_Level.res (_p0 _p1 _p2 : Int) : Int × Int → MV
 | (q0,q1)=>.tup [.int .i32 q0,.int .i64 q1]
def quant_Level.out (_p0 _p1 _p2 : Int) : Int × Int → List (Nat × Option MObj)
 | (_,_)=>[]
theorem quant_Level.ok {K : Nat} {p0 p1 p2 : Int} {r : Int × Int} (h0 : quant_Level K p0 p1 p2 = some r) : Fn Tryz.prog 80 [.int .i64 p0,.int .i64 p1,.int .i64 p2] [] (quant_Level.res p0 p1 p2 r) (quant_Level.out p0 p1 p2 r):=by
 refine Fn_of Tryz.func80 rfl (Nat.le_of_ble_eq_true rfl) fun Γ=>?_
 refine zr ?_
 refine zv 2 rfl ⟨tv,tv,tv⟩ ?_
 refine ze ?_
 refine TC_seq ?_
 refine TC_blk ?_
 refine TC_seq ?_
 refine zr ?_
 refine zv 2 rfl ⟨tv,tv,tv⟩ ?_
 obtain ⟨r7,hr,h0⟩:=bnd h0
 refine TL_callB [] (quant_may.ok0 hr) quant_may.fnb rfl ⟨tv,⟨tv,⟨tv,tv⟩⟩⟩ rfl tv rfl ?_
 refine zv 2 rfl ⟨tv,tv,tv⟩ ?_
 refine ze ?_
 obtain ⟨z1,h1,h0⟩:=bnd h0
 refine TC_cut (α:=Bool) (fun s=>z1 = s) (fun s=>[(0,.int .i64 p0),(1,.int .i64 p1),(2,.int .i64 p2),(10,.bool s)]) (fun s=>[]) ?_ ?_
 ·refine TC_cond rfl (fun hb=>?_) (fun hb=>?_)
  ·replace h1:=bif_t h1 hb
   refine TC_skip ?_
   obtain rfl:=sinj h1
   refine tsn ?_
   exact SP_ren [] _ rfl ⟨rfl,rfl,rfl,rfl,tv⟩ tv rfl
  ·replace h1:=bif_f h1 hb
   refine zr ?_
   refine zv 3 rfl ⟨tv,⟨tv,tv,tv⟩,tv,tv⟩ ?_
   refine ze ?_
   refine TC_cond rfl (fun hb=>?_) (fun hb=>?_)
   ·replace h1:=bif_t h1 hb
    refine TC_skip ?_
    obtain rfl:=sinj h1
    refine tsn ?_
    exact SP_ren [] _ rfl ⟨rfl,rfl,rfl,rfl,tv⟩ tv rfl
   ·replace h1:=bif_f h1 hb
    refine zr ?_
    refine zv 7 rfl ⟨tv,⟨tv,tv,tv⟩,tv,fun eg=>tv,fun eg=>⟨fun e=>e,tv,tv⟩,⟨tv,fun e=>e,tv⟩,tv,tv⟩ ?_
    refine ze ?_
    refine TC_cond rfl (fun hb=>?_) (fun hb=>?_)
    ·replace h1:=bif_t h1 hb
     refine TC_skip ?_
     obtain rfl:=sinj h1
     refine tsn ?_
     exact SP_ren [] _ rfl ⟨rfl,rfl,rfl,rfl,tv⟩ tv rfl
    ·replace h1:=bif_f h1 hb
     refine TC_reg ?_
     obtain ⟨g,h1⟩:=gd_t h1
     refine zv 10 rfl ⟨tv,⟨tv,tv,tv⟩,tv,fun eg=>tv,fun eg=>tv,fun eg=>⟨tv,fun e=>e,(g eg)⟩,fun eg=>⟨fun e=>e,tv,tv⟩,fun eg=>⟨fun e=>e,fun e=>e,tv⟩,⟨tv,fun e=>e,tv⟩,tv,tv⟩ ?_
     refine TL_end ?_
     obtain rfl:=sinj h1
     refine tsn ?_
     exact SP_ren [] _ rfl ⟨rfl,rfl,rfl,rfl,tv⟩ tv rfl
 ·rintro x8 hz
  obtain rfl:=hz.symm
  refine TE_go ?_
  refine TC_cond rfl (fun hb=>?_) (fun hb=>?_)
  ·replace h0:=bif_t h0 hb
   refine zr ?_
   refine zv 2 rfl ⟨tv,tv,tv⟩ ?_
   refine ze ?_
   refine TC_ret ?_
   refine tbr ?_
   refine tsr ?_
   obtain rfl:=sinj h0
   exact TE_ret env rfl tv tv
  ·replace h0:=bif_f h0 hb
   refine zr ?_
   refine zv 3 rfl ⟨tv,⟨tv,tv,tv⟩,tv,tv⟩ ?_
   refine ze ?_
   refine TC_cond rfl (fun hb=>?_) (fun hb=>?_)
   ·replace h0:=bif_t h0 hb
    refine zr ?_
    refine zv 2 rfl ⟨tv,tv,tv⟩ ?_
    refine ze ?_
    refine TC_ret ?_
    refine tbr ?_
    refine tsr ?_
    obtain rfl:=sinj h0
    exact TE_ret env rfl tv tv
   ·replace h0:=bif_f h0 hb
    refine TC_skip ?_
    refine tbn ?_
    refine TE_go ?_
    refine TC_seq ?_
    refine TC_renw (A':=[(0,.int .i64 _),(1,.int .i64 _),(2,.int .i64 _)]) (L':=[]) [] ⟨rfl,rfl,rfl,tv⟩ tv rfl ?_
    refine zd [[],[0],[],[2],[3,2],[1,0],[5,4,3,2,1,0]] [[],[],[],[],[],[],[]] [[],[],[],[],[],[],[]] [[],[],[],[],[],[],[]] (by kernel_rfl) (by kernel_rfl) ?_
    refine zj 1 rfl rfl rfl tv ?_
    obtain ⟨g,h0⟩:=gd_t h0
    refine zj 2 rfl rfl rfl ⟨tv,tv,g⟩ ?_
    refine zj 3 rfl rfl rfl tv ?_
    obtain ⟨g,h0⟩:=gd_t h0
    refine zj 4 rfl rfl rfl ⟨tv,tv,g⟩ ?_
    refine zj 5 rfl rfl rfl ⟨tv,tv,tv⟩ ?_
    refine zj 6 rfl rfl rfl tv ?_
    refine zj 7 rfl rfl rfl tv ?_
    refine AJR_end rfl rfl rfl ?_
    refine zg ?_
    obtain ⟨g,h0⟩:=gd_t h0
    refine zv 12 rfl ⟨tv,⟨tv,tv,tv⟩,⟨tv,tv,tv⟩,tv,⟨tv,tv,tv⟩,tv,⟨tv,tv,g⟩,tv,⟨tv,tv,tv⟩,tv,tv,tv,tv⟩ ?_
    refine ze ?_
    refine TC_ret ?_
    obtain rfl:=sinj h0
    exact TE_ret env rfl tv tv
theorem quant_Level.ok0 {K : Nat} {p0 p1 p2 q0 q1 : Int} (h0 : quant_Level K p0 p1 p2 = some (q0,q1)) : Fn Tryz.prog 80 [.int .i64 p0,.int .i64 p1,.int .i64 p2] [] (.tup [.int .i32 q0,.int .i64 q1]) []:=quant_Level.ok h0
theorem quant_Level.fnb : fnb Tryz.prog 80 = true:=fnb_of Tryz.func80 rfl
def subband_Params_share.res (_p0 _p1 _p2 _p3 _p4 _p5 _p6 _p7 _p8 _p9 : Int) (_p10 : List Int) (_p11 : List (List Int)) (_p12 : List (List (List Int))) : (List (List Int)) × Bool → MV
 | (q0,q1)=>.tup [.im (.slice (.slice (.int .i64))) q0,.bool q1]
def subband_Params_share.out (_p0 _p1 _p2 _p3 _p4 _p5 _p6 _p7 _p8 _p9 : Int) (p10 : List Int) (p11 : List (List Int)) (p12 : List (List (List Int))) : (List (List Int)) × Bool → List (Nat × Option MObj)
 | (_,_)=>[(0,some (.cells [.im (.slice (.int .i64)) p10,.im (.slice (.slice (.int .i64))) p11,.im (.slice (.slice (.slice (.int .i64)))) p12]))]
theorem subband_Params_share.ok {K : Nat} {p0 p1 p2 p3 p4 p5 p6 p7 p8 p9 : Int} {p10 : List Int} {p11 : List (List Int)} {p12 : List (List (List Int))} {r : (List (List Int)) × Bool} (h0 : subband_Params_share K p0 p1 p2 p3 p4 p5 p6 p7 p8 p9 p10 p11 p12 = some r) : Fn Tryz.prog 42 [.p 0 0,.agg [.int .i64 p0,.int .i64 p1,.int .i64 p2,.int .i64 p3,.int .i64 p4,.int .i64 p5,.int .i64 p6,.int .i64 p7,.int .i64 p8,.int .i64 p9]] [(0,some (.cells [.im (.slice (.int .i64)) p10,.im (.slice (.slice (.int .i64))) p11,.im (.slice (.slice (.slice (.int .i64)))) p12]))] (subband_Params_share.res p0 p1 p2 p3 p4 p5 p6 p7 p8 p9 p10 p11 p12 r) (subband_Params_share.out p0 p1 p2 p3 p4 p5 p6 p7 p8 p9 p10 p11 p12 r):=by
 refine Fn_of Tryz.func42 rfl (Nat.le_of_ble_eq_true rfl) fun Γ=>?_
 unfold subband_Params_share at h0
 refine zr ?_
 refine zv 3 rfl ⟨tv,tv,tv,tv⟩ ?_
 refine zn ?_
 refine zv 1 rfl ⟨tv,tv⟩ ?_
 refine zn ?_
 refine zv 2 rfl ⟨⟨tv,tv⟩,tv,tv⟩ ?_
 refine ze ?_
 refine TC_seq ?_
 refine TC_seq ?_
 obtain ⟨z1,h1,h0⟩:=bnd h0
 refine TC_cut (α:=Bool) (fun s=>z1 = s) (fun s=>[(0,.p 0 0),(3,.p 18601 0),(40,.bool s)]) (fun s=>[(0,some (.cells [.im (.slice (.int .i64)) p10,.im (.slice (.slice (.int .i64))) p11,.im (.slice (.slice (.slice (.int .i64)))) p12])),(18601,some (.cells [.int .i64 p0,.int .i64 p1,.int .i64 p2,.int .i64 p3,.int .i64 p4,.int .i64 p5,.int .i64 p6,.int .i64 p7,.int .i64 p8,.int .i64 p9]))]) ?_ ?_
 ·refine TC_renw (A':=[(0,.p 0 0),(3,.p 1003 0),(6,.fn 99 []),(7,.fn 100 [.p 1003 0])]) (L':=[(0,some (.cells [.im (.slice (.int .i64)) _,.im (.slice (.slice (.int .i64))) _,.im (.slice (.slice (.slice (.int .i64)))) _])),(1003,some (.cells [.int .i64 _,.int .i64 _,.int .i64 _,.int .i64 _,.int .i64 _,.int .i64 _,.int .i64 _,.int .i64 _,.int .i64 _,.int .i64 _]))]) [] ⟨rfl,rfl,rfl,rfl,tv⟩ ⟨rfl,rfl,tv⟩ rfl ?_
  refine zd [[],[0],[1,0],[2,1,0],[],[4],[],[6,5,4,3,2,1,0],[7,6,5,4,3,2,1,0],[8,7,6,5,4,3,2,1,0],[9,8,7,6,5,4,3,2,1,0],[9,8,7,6,5,4,3,2,1,0],[11,9,8,7,6,5,4,3,2,1,0],[12,11,9,8,7,6,5,4,3,2,1,0],[13,12,11,9,8,7,6,5,4,3,2,1,0],[9,8,7,6,5,4,3,2,1,0],[15,9,8,7,6,5,4,3,2,1,0],[16,15,9,8,7,6,5,4,3,2,1,0],[17,16,15,14,13,12,11,9,8,7,6,5,4,3,2,1,0],[18,17,16,15,14,13,12,11,9,8,7,6,5,4,3,2,1,0],[19,18,17,16,15,14,13,12,11,10,9,8,7,6,5,4,3,2,1,0],[20,19,18,17,16,15,14,13,12,11,10,9,8,7,6,5,4,3,2,1,0],[21,20,19,18,17,16,15,14,13,12,11,10,9,8,7,6,5,4,3,2,1,0]] [[],[],[],[],[],[],[],[1003],[],[],[],[],[],[],[],[],[],[],[],[],[],[],[]] [[],[],[],[],[],[],[],[],[],[],[],[],[],[],[],[],[],[],[],[],[],[],[]] [[],[],[],[],[],[],[],[],[],[],[],[],[],[],[],[],[],[],[],[],[],[],[]] (by kernel_rfl) (by kernel_rfl) ?_
  refine zj 1 rfl rfl rfl tv ?_
  refine zj 2 rfl rfl rfl tv ?_
  refine zj 3 rfl rfl rfl tv ?_
  refine zj 4 rfl rfl rfl ⟨tv,tv⟩ ?_
  refine zj 5 rfl rfl rfl tv ?_
  refine zj 6 rfl rfl rfl ⟨tv,tv⟩ ?_
  refine zj 7 rfl rfl rfl tv ?_
  obtain ⟨r942,hr,h1⟩:=bnd h1
  refine AJR_call 8 rfl (Nat.le_of_ble_eq_true rfl) [(0,1003)] rfl (subband_shaped_int.ok0 hr) subband_shaped_int.fnb rfl ⟨tv,⟨tv,⟨tv,⟨tv,tv⟩⟩⟩⟩ rfl ⟨.inr rfl,tv⟩ rfl ?_
  refine zj 9 rfl rfl rfl tv ?_
  refine zj 10 rfl rfl rfl tv ?_
  refine bif_split h1 (fun hb943 h1=>?_) (fun hb943 h1=>?_)
  ·refine AJR_gskip (.bool false) 11 rfl (Nat.le_of_ble_eq_true rfl) hb943 rfl rfl rfl rfl rfl rfl (by decide) ?_
   refine AJR_gskip (.bool false) 12 rfl (Nat.le_of_ble_eq_true rfl) hb943 rfl rfl rfl rfl rfl rfl (by decide) ?_
   refine AJR_gskip (.bool false) 13 rfl (Nat.le_of_ble_eq_true rfl) hb943 rfl rfl rfl rfl rfl rfl (by decide) ?_
   refine AJR_gskip (.bool false) 14 rfl (Nat.le_of_ble_eq_true rfl) hb943 rfl rfl rfl rfl rfl rfl (by decide) ?_
   refine AJR_gskip (.bool false) 15 rfl (Nat.le_of_ble_eq_true rfl) hb943 rfl rfl rfl rfl rfl rfl (by decide) ?_
   refine AJR_gskip (.bool false) 16 rfl (Nat.le_of_ble_eq_true rfl) hb943 rfl rfl rfl rfl rfl rfl (by decide) ?_
   refine AJR_gskip (.bool false) 17 rfl (Nat.le_of_ble_eq_true rfl) hb943 rfl rfl rfl rfl rfl rfl (by decide) ?_
   refine AJR_gskip (.bool false) 18 rfl (Nat.le_of_ble_eq_true rfl) hb943 rfl rfl rfl rfl rfl rfl (by decide) ?_
   refine AJR_gskip (.bool false) 19 rfl (Nat.le_of_ble_eq_true rfl) hb943 rfl rfl rfl rfl rfl rfl (by decide) ?_
   refine AJR_gskip (.bool false) 20 rfl (Nat.le_of_ble_eq_true rfl) hb943 rfl rfl rfl rfl rfl rfl (by decide) ?_
   refine AJR_gskip (.bool false) 21 rfl (Nat.le_of_ble_eq_true rfl) hb943 rfl rfl rfl rfl rfl rfl (by decide) ?_
   refine AJR_gskip (.bool false) 22 rfl (Nat.le_of_ble_eq_true rfl) hb943 rfl rfl rfl rfl rfl rfl (by decide) ?_
   refine zj 23 rfl rfl rfl ⟨tv,tv,fun e=>(ftf ((congrArg Bool.not hb943).symm.trans e)).elim⟩ ?_
   refine AJR_end rfl rfl rfl ?_
   obtain rfl:=sinj h1
   refine tsn ?_
   exact SP_ren [(18601,1003)] _ rfl ⟨rfl,rfl,rfl,tv⟩ ⟨rfl,rfl,tv⟩ rfl
  ·refine AJR_gev env 11 rfl (Nat.le_of_ble_eq_true rfl) hb943 rfl rfl rfl rfl rfl rfl tv ?_
   refine AJR_gev env 12 rfl (Nat.le_of_ble_eq_true rfl) hb943 rfl rfl rfl rfl rfl rfl tv ?_
   refine AJR_gev env 13 rfl (Nat.le_of_ble_eq_true rfl) hb943 rfl rfl rfl rfl rfl rfl tv ?_
   refine AJR_gev env 14 rfl (Nat.le_of_ble_eq_true rfl) hb943 rfl rfl rfl rfl rfl rfl tv ?_
   refine AJR_gev env 15 rfl (Nat.le_of_ble_eq_true rfl) hb943 rfl rfl rfl rfl rfl rfl ⟨tv,tv⟩ ?_
   refine AJR_gev env 16 rfl (Nat.le_of_ble_eq_true rfl) hb943 rfl rfl rfl rfl rfl rfl tv ?_
   refine AJR_gev env 17 rfl (Nat.le_of_ble_eq_true rfl) hb943 rfl rfl rfl rfl rfl rfl ⟨tv,tv⟩ ?_
   refine AJR_gev env 18 rfl (Nat.le_of_ble_eq_true rfl) hb943 rfl rfl rfl rfl rfl rfl ⟨tv,⟨tv,tv⟩⟩ ?_
   obtain ⟨g,h1⟩:=gd_t h1
   refine AJR_gev env 19 rfl (Nat.le_of_ble_eq_true rfl) hb943 rfl rfl rfl rfl rfl rfl ⟨tv,⟨tv,⟨g.1,g.2⟩⟩⟩ ?_
   refine AJR_gev env 20 rfl (Nat.le_of_ble_eq_true rfl) hb943 rfl rfl rfl rfl rfl rfl ⟨tv,tv⟩ ?_
   obtain ⟨r947,hr,h1⟩:=bnd h1
   refine AJR_gcall 21 rfl (Nat.le_of_ble_eq_true rfl) hb943 [] rfl rfl rfl rfl rfl (subband_Params_share_1.ok0 hr) subband_Params_share_1.fnb rfl ⟨tv,⟨tv,tv⟩⟩ rfl tv rfl ?_
   refine AJR_gev env 22 rfl (Nat.le_of_ble_eq_true rfl) hb943 rfl rfl rfl rfl rfl rfl tv ?_
   refine zj 23 rfl rfl rfl ⟨tv,tv,tv⟩ ?_
   refine AJR_end rfl rfl rfl ?_
   obtain rfl:=sinj h1
   refine tsn ?_
   exact SP_ren [(18601,1003)] _ rfl ⟨rfl,rfl,rfl,tv⟩ ⟨rfl,rfl,tv⟩ rfl
 ·rintro x244 hz
  obtain rfl:=hz.symm
  refine TE_go ?_
  refine TC_cond rfl (fun hb=>?_) (fun hb=>?_)
  ·replace h0:=bif_t h0 hb
   refine zr ?_
   refine zv 2 rfl ⟨tv,tv,tv⟩ ?_
   refine ze ?_
   refine TC_ret ?_
   refine tsr ?_
   refine TE_imn 4 (.slice (.int .i64)) rfl ?_
   obtain rfl:=sinj h0
   exact TE_ret env rfl tv ⟨.inr rfl,tv⟩
  ·replace h0:=bif_f h0 hb
   refine TC_skip ?_
   refine TE_go ?_
   refine TC_seq ?_
   refine TC_renw (A':=[(0,.p 0 0),(3,.p 18601 0)]) (L':=[(0,some (.cells [.im (.slice (.int .i64)) _,.im (.slice (.slice (.int .i64))) _,.im (.slice (.slice (.slice (.int .i64)))) _])),(18601,some (.cells [.int .i64 _,.int .i64 _,.int .i64 _,.int .i64 _,.int .i64 _,.int .i64 _,.int .i64 _,.int .i64 _,.int .i64 _,.int .i64 _]))]) [] ⟨rfl,rfl,tv⟩ ⟨rfl,rfl,tv⟩ rfl ?_
   refine zd [[],[],[1],[2,1],[3,2,1],[4,3,2,1,0],[5,4,3,2,1,0],[6,5,4,3,2,1,0],[6,5,4,3,2,1,0],[7,6,5,4,3,2,1,0],[9,8,7,6,5,4,3,2,1,0]] [[],[],[],[],[],[],[],[],[],[],[]] [[],[],[],[],[],[],[],[],[],[],[]] [[],[],[],[],[],[],[],[],[],[],[]] (by kernel_rfl) (by kernel_rfl) ?_
   refine zj 1 rfl rfl rfl ⟨tv,tv⟩ ?_
   refine zj 2 rfl rfl rfl tv ?_
   refine zj 3 rfl rfl rfl tv ?_
   refine zj 4 rfl rfl rfl tv ?_
   refine zj 5 rfl rfl rfl ⟨tv,tv⟩ ?_
   obtain ⟨⟨r245,r246⟩,hr,h0⟩:=bnd h0
   refine AJR_call 6 rfl (Nat.le_of_ble_eq_true rfl) [] rfl (alloc_Share.ok0 hr) alloc_Share.fnb rfl ⟨tv,⟨tv,⟨tv,tv⟩⟩⟩ rfl tv rfl ?_
   refine zj 7 rfl rfl rfl tv ?_
   refine zj 8 rfl rfl rfl tv ?_
   refine zj 9 rfl rfl rfl tv ?_
   refine zj 10 rfl rfl rfl tv ?_
   refine zj 11 rfl rfl rfl tv ?_
   refine AJR_end rfl rfl rfl ?_
   refine TE_go ?_
   refine TC_seq ?_
   refine zr ?_
   refine zv 2 rfl ⟨tv,⟨tv,tv,tv⟩,tv⟩ ?_
   refine ze ?_
   refine TC_cond rfl (fun hb=>?_) (fun hb=>?_)
   ·replace h0:=bif_t h0 hb
    refine zr ?_
    refine zv 2 rfl ⟨tv,tv,tv⟩ ?_
    refine ze ?_
    refine TC_ret ?_
    refine tsr ?_
    refine TE_imn 4 (.slice (.int .i64)) rfl ?_
    obtain rfl:=sinj h0
    exact TE_ret env rfl tv ⟨.inr rfl,tv⟩
   ·replace h0:=bif_f h0 hb
    refine TC_skip ?_
    refine TE_go ?_
    refine TC_seq ?_
    refine TC_renw (A':=[(0,.p 0 0),(3,.p 18601 0),(8,.im (.slice (.slice (.int .i64))) _)]) (L':=[(0,some (.cells [.im (.slice (.int .i64)) _,.im (.slice (.slice (.int .i64))) _,.im (.slice (.slice (.slice (.int .i64)))) _])),(18601,some (.cells [.int .i64 _,.int .i64 _,.int .i64 _,.int .i64 _,.int .i64 _,.int .i64 _,.int .i64 _,.int .i64 _,.int .i64 _,.int .i64 _]))]) [] ⟨rfl,rfl,rfl,tv⟩ ⟨rfl,rfl,tv⟩ rfl ?_
    refine zd [[],[0],[1,0],[2,1,0],[],[4],[],[6,5,4,3,2,1,0],[7,6,5,4,3,2,1,0]] [[],[],[],[],[],[],[],[18601],[]] [[],[],[],[],[],[],[],[],[]] [[],[],[],[],[],[],[],[],[]] (by kernel_rfl) (by kernel_rfl) ?_
    refine zj 1 rfl rfl rfl tv ?_
    refine zj 2 rfl rfl rfl tv ?_
    refine zj 3 rfl rfl rfl tv ?_
    refine zj 4 rfl rfl rfl ⟨tv,tv⟩ ?_
    refine zj 5 rfl rfl rfl tv ?_
    refine zj 6 rfl rfl rfl ⟨tv,tv⟩ ?_
    refine zj 7 rfl rfl rfl ⟨tv,tv⟩ ?_
    obtain ⟨r247,hr,h0⟩:=bnd h0
    refine AJR_call 8 rfl (Nat.le_of_ble_eq_true rfl) [(0,18601)] rfl (subband_shaped_int_2.ok0 hr) subband_shaped_int_2.fnb rfl ⟨tv,⟨tv,⟨tv,⟨tv,tv⟩⟩⟩⟩ rfl ⟨.inr rfl,tv⟩ rfl ?_
    refine zj 9 rfl rfl rfl tv ?_
    refine AJR_end rfl rfl rfl ?_
    refine TE_go ?_
    refine TC_seq ?_
    refine zr ?_
    refine zv 6 rfl ⟨tv,tv,tv,⟨tv,tv⟩,⟨tv,tv⟩,tv,tv⟩ ?_
    refine ze ?_
    obtain ⟨z1,h1,h0⟩:=bnd h0
    refine TC_cut (α:=Bool) (fun s=>z1 = s) (fun s=>[(8,.im (.slice (.slice (.int .i64))) r245),(10,.bool s)]) (fun s=>[(0,some (.cells [.im (.slice (.int .i64)) p10,.im (.slice (.slice (.int .i64))) p11,.im (.slice (.slice (.slice (.int .i64)))) p12]))]) ?_ ?_
    ·refine TC_blk ?_
     refine TC_loop (α:=Bool × Int) (fun n s=>subband_Params_share.l0 K r245 p12 (p12.length : Int) p10 p11 p0 p1 p2 p3 p4 p5 p6 p7 p8 p9 n s.1 s.2 = some z1) (fun s=>[(0,.p 0 0),(3,.p 31201 0),(8,.im (.slice (.slice (.int .i64))) r245),(10,.bool s.1),(63,.im (.slice (.slice (.slice (.int .i64)))) p12),(64,.int .i64 (p12.length : Int)),(65,.int .i64 s.2)]) (fun s=>[(0,some (.cells [.im (.slice (.int .i64)) p10,.im (.slice (.slice (.int .i64))) p11,.im (.slice (.slice (.slice (.int .i64)))) p12])),(31201,some (.cells [.int .i64 p0,.int .i64 p1,.int .i64 p2,.int .i64 p3,.int .i64 p4,.int .i64 p5,.int .i64 p6,.int .i64 p7,.int .i64 p8,.int .i64 p9]))]) K ?_ ?_
     ·exact SP_ren [(31201,18601)] (_,_) h1 ⟨rfl,rfl,rfl,rfl,rfl,rfl,rfl,tv⟩ ⟨rfl,rfl,tv⟩ rfl
     rintro n ⟨x595,x596⟩ h1
     rcases n with _ | n
     ·exact (nsome h1).elim
     replace h1 : subband_Params_share.r0 K r245 p12 (p12.length : Int) p10 p11 p0 p1 p2 p3 p4 p5 p6 p7 p8 p9 (subband_Params_share.l0 K r245 p12 (p12.length : Int) p10 p11 p0 p1 p2 p3 p4 p5 p6 p7 p8 p9 n) x595 x596 = some z1:=h1
     refine zr ?_
     refine zv 1 rfl ⟨⟨tv,tv,tv⟩,tv⟩ ?_
     refine ze ?_
     refine TC_seq ?_
     refine TC_cond rfl (fun hb=>?_) (fun hb=>?_)
     ·replace h1:=bif_t h1 hb
      refine TC_skip ?_
      refine TE_go ?_
      refine TC_seq ?_
      refine TC_blk ?_
      refine zr ?_
      obtain ⟨g,h1⟩:=gd_t h1
      refine zv 3 rfl ⟨⟨tv,tv,g.1,g.2⟩,⟨tv,tv⟩,tv,tv⟩ ?_
      refine zn ?_
      refine zv 1 rfl ⟨tv,tv⟩ ?_
      refine ze ?_
      obtain ⟨z2,h2,h1⟩:=bnd h1
      refine TC_cut (α:=Bool) (fun s=>z2 = s) (fun s=>[(0,.p 0 0),(3,.p 39301 0),(8,.im (.slice (.slice (.int .i64))) r245),(10,.bool s),(63,.im (.slice (.slice (.slice (.int .i64)))) p12),(64,.int .i64 (p12.length : Int)),(65,.int .i64 x596)]) (fun s=>[(0,some (.cells [.im (.slice (.int .i64)) p10,.im (.slice (.slice (.int .i64))) p11,.im (.slice (.slice (.slice (.int .i64)))) p12])),(39301,some (.cells [.int .i64 p0,.int .i64 p1,.int .i64 p2,.int .i64 p3,.int .i64 p4,.int .i64 p5,.int .i64 p6,.int .i64 p7,.int .i64 p8,.int .i64 p9]))]) ?_ ?_
      ·refine TC_blk ?_
       refine TC_loop (α:=Bool × Int) (fun n s=>subband_Params_share.l1 K r245 (Kd.nth (.slice (.slice (.int .i64))) p12 (Int.toNat x596)) p12 (p12.length : Int) x596 p10 p11 p0 p1 p2 p3 p4 p5 p6 p7 p8 p9 n s.1 s.2 = some z2) (fun s=>[(0,.p 0 0),(3,.p 40301 0),(8,.im (.slice (.slice (.int .i64))) r245),(10,.bool s.1),(12,.im (.slice (.slice (.int .i64))) (Kd.nth (.slice (.slice (.int .i64))) p12 (Int.toNat x596))),(13,.int .i64 s.2),(63,.im (.slice (.slice (.slice (.int .i64)))) p12),(64,.int .i64 (p12.length : Int)),(65,.int .i64 x596)]) (fun s=>[(0,some (.cells [.im (.slice (.int .i64)) p10,.im (.slice (.slice (.int .i64))) p11,.im (.slice (.slice (.slice (.int .i64)))) p12])),(40301,some (.cells [.int .i64 p0,.int .i64 p1,.int .i64 p2,.int .i64 p3,.int .i64 p4,.int .i64 p5,.int .i64 p6,.int .i64 p7,.int .i64 p8,.int .i64 p9]))]) K ?_ ?_
       ·exact SP_ren [(40301,31201)] (_,_) h2 ⟨rfl,rfl,rfl,rfl,rfl,rfl,rfl,rfl,rfl,tv⟩ ⟨rfl,rfl,tv⟩ rfl
       rintro n ⟨x856,x857⟩ h2
       rcases n with _ | n
       ·exact (nsome h2).elim
       replace h2 : subband_Params_share.r1 K r245 (Kd.nth (.slice (.slice (.int .i64))) p12 (Int.toNat x596)) p12 (p12.length : Int) x596 p10 p11 p0 p1 p2 p3 p4 p5 p6 p7 p8 p9 (subband_Params_share.l1 K r245 (Kd.nth (.slice (.slice (.int .i64))) p12 (Int.toNat x596)) p12 (p12.length : Int) x596 p10 p11 p0 p1 p2 p3 p4 p5 p6 p7 p8 p9 n) x856 x857 = some z2:=h2
       refine TC_seq ?_
       refine zr ?_
       refine zv 7 rfl ⟨tv,tv,fun eg=>tv,fun eg=>tv,fun eg=>⟨fun e=>e,tv⟩,fun eg=>⟨fun e=>e,fun e=>e,tv⟩,⟨tv,fun e=>e,tv⟩,tv⟩ ?_
       refine ze ?_
       refine TC_cond rfl (fun hb=>?_) (fun hb=>?_)
       ·replace h2:=bif_t h2 hb
        refine TC_skip ?_
        refine TE_go ?_
        refine TC_seq ?_
        refine TC_blk ?_
        refine TC_seq ?_
        refine TC_renw (A':=[(0,.p 0 0),(3,.p 40301 0),(8,.im (.slice (.slice (.int .i64))) _),(10,.bool _),(12,.im (.slice (.slice (.int .i64))) _),(13,.int .i64 _),(63,.im (.slice (.slice (.slice (.int .i64)))) _),(64,.int .i64 _),(65,.int .i64 _)]) (L':=[(0,some (.cells [.im (.slice (.int .i64)) _,.im (.slice (.slice (.int .i64))) _,.im (.slice (.slice (.slice (.int .i64)))) _])),(40301,some (.cells [.int .i64 _,.int .i64 _,.int .i64 _,.int .i64 _,.int .i64 _,.int .i64 _,.int .i64 _,.int .i64 _,.int .i64 _,.int .i64 _]))]) [] ⟨rfl,rfl,rfl,rfl,rfl,rfl,rfl,rfl,rfl,tv⟩ ⟨rfl,rfl,tv⟩ rfl ?_
        refine zd [[],[],[1,0],[2,1,0],[3,2,1,0],[],[5],[6,5,4,3,2,1,0],[7,6,5,4,3,2,1,0]] [[],[],[],[],[],[],[],[],[]] [[],[],[],[],[],[],[],[],[]] [[],[],[],[],[],[],[],[],[]] (by kernel_rfl) (by kernel_rfl) ?_
        refine zj 1 rfl rfl rfl tv ?_
        refine zj 2 rfl rfl rfl tv ?_
        obtain ⟨g,h2⟩:=gd_t h2
        refine zj 3 rfl rfl rfl ⟨tv,tv,g.1,g.2⟩ ?_
        refine zj 4 rfl rfl rfl ⟨tv,tv⟩ ?_
        refine zj 5 rfl rfl rfl ⟨tv,tv⟩ ?_
        refine zj 6 rfl rfl rfl tv ?_
        refine zj 7 rfl rfl rfl ⟨tv,tv⟩ ?_
        refine zj 8 rfl rfl rfl ⟨tv,tv,tv⟩ ?_
        refine zj 9 rfl rfl rfl tv ?_
        refine AJR_end rfl rfl rfl ?_
        refine zg ?_
        refine zv 1 rfl ⟨tv,tv⟩ ?_
        refine ze ?_
        obtain ⟨z3,h3,h2⟩:=bnd h2
        refine TC_cut (α:=Bool) (fun s=>z3 = s) (fun s=>[(0,.p 0 0),(3,.p 42001 0),(8,.im (.slice (.slice (.int .i64))) r245),(10,.bool s),(12,.im (.slice (.slice (.int .i64))) (Kd.nth (.slice (.slice (.int .i64))) p12 (Int.toNat x596))),(13,.int .i64 x857),(63,.im (.slice (.slice (.slice (.int .i64)))) p12),(64,.int .i64 (p12.length : Int)),(65,.int .i64 x596)]) (fun s=>[(0,some (.cells [.im (.slice (.int .i64)) p10,.im (.slice (.slice (.int .i64))) p11,.im (.slice (.slice (.slice (.int .i64)))) p12])),(42001,some (.cells [.int .i64 p0,.int .i64 p1,.int .i64 p2,.int .i64 p3,.int .i64 p4,.int .i64 p5,.int .i64 p6,.int .i64 p7,.int .i64 p8,.int .i64 p9]))]) ?_ ?_
        ·refine TC_blk ?_
         refine TC_loop (α:=Bool × Int) (fun n s=>subband_Params_share.l2 K r245 (Kd.nth (.slice (.slice (.int .i64))) p12 (Int.toNat x596)) x857 p12 (p12.length : Int) x596 p10 p11 p0 p1 p2 p3 p4 p5 p6 p7 p8 p9 n s.1 s.2 = some z3) (fun s=>[(0,.p 0 0),(3,.p 42201 0),(8,.im (.slice (.slice (.int .i64))) r245),(10,.bool s.1),(12,.im (.slice (.slice (.int .i64))) (Kd.nth (.slice (.slice (.int .i64))) p12 (Int.toNat x596))),(13,.int .i64 x857),(14,.int .i64 s.2),(63,.im (.slice (.slice (.slice (.int .i64)))) p12),(64,.int .i64 (p12.length : Int)),(65,.int .i64 x596)]) (fun s=>[(0,some (.cells [.im (.slice (.int .i64)) p10,.im (.slice (.slice (.int .i64))) p11,.im (.slice (.slice (.slice (.int .i64)))) p12])),(42201,some (.cells [.int .i64 p0,.int .i64 p1,.int .i64 p2,.int .i64 p3,.int .i64 p4,.int .i64 p5,.int .i64 p6,.int .i64 p7,.int .i64 p8,.int .i64 p9]))]) K ?_ ?_
         ·exact SP_ren [(42201,40301)] (_,_) h3 ⟨rfl,rfl,rfl,rfl,rfl,rfl,rfl,rfl,rfl,rfl,tv⟩ ⟨rfl,rfl,tv⟩ rfl
         rintro n ⟨x921,x922⟩ h3
         rcases n with _ | n
         ·exact (nsome h3).elim
         replace h3 : subband_Params_share.r2 K r245 (Kd.nth (.slice (.slice (.int .i64))) p12 (Int.toNat x596)) x857 p12 (p12.length : Int) x596 p10 p11 p0 p1 p2 p3 p4 p5 p6 p7 p8 p9 (subband_Params_share.l2 K r245 (Kd.nth (.slice (.slice (.int .i64))) p12 (Int.toNat x596)) x857 p12 (p12.length : Int) x596 p10 p11 p0 p1 p2 p3 p4 p5 p6 p7 p8 p9 n) x921 x922 = some z3:=h3
         refine TC_seq ?_
         refine zr ?_
         refine zv 7 rfl ⟨tv,tv,fun eg=>tv,fun eg=>tv,fun eg=>⟨fun e=>e,tv⟩,fun eg=>⟨fun e=>e,fun e=>e,tv⟩,⟨tv,fun e=>e,tv⟩,tv⟩ ?_
         refine ze ?_
         refine TC_cond rfl (fun hb=>?_) (fun hb=>?_)
         ·replace h3:=bif_t h3 hb
          refine TC_skip ?_
          refine TE_go ?_
          refine TC_seq ?_
          refine TC_blk ?_
          refine TC_seq ?_
          refine TC_renw (A':=[(0,.p 0 0),(3,.p 42201 0),(8,.im (.slice (.slice (.int .i64))) _),(12,.im (.slice (.slice (.int .i64))) _),(13,.int .i64 _),(14,.int .i64 _),(63,.im (.slice (.slice (.slice (.int .i64)))) _),(64,.int .i64 _),(65,.int .i64 _)]) (L':=[(0,some (.cells [.im (.slice (.int .i64)) _,.im (.slice (.slice (.int .i64))) _,.im (.slice (.slice (.slice (.int .i64)))) _])),(42201,some (.cells [.int .i64 _,.int .i64 _,.int .i64 _,.int .i64 _,.int .i64 _,.int .i64 _,.int .i64 _,.int .i64 _,.int .i64 _,.int .i64 _]))]) [] ⟨rfl,rfl,rfl,rfl,rfl,rfl,rfl,rfl,rfl,tv⟩ ⟨rfl,rfl,tv⟩ rfl ?_
          refine zd [[],[],[1,0],[2,1,0],[],[4,3,2,1,0],[5,4,3,2,1,0],[],[7],[8,7],[9,8,7],[],[11,10,9,8,7],[12,11,10,9,8,7],[],[14,13,12,11,10,9,8,7],[15,14,13,12,11,10,9,8,7],[],[],[18,17],[19,18,17],[],[21,20,19,18,17],[22,21,20,19,18,17],[23,22,21,20,19,18,17,16,15,14,13,12,11,10,9,8,7,6,5,4,3,2,1,0],[24,23,22,21,20,19,18,17,16,15,14,13,12,11,10,9,8,7,6,5,4,3,2,1,0],[25,24,23,22,21,20,19,18,17,16,15,14,13,12,11,10,9,8,7,6,5,4,3,2,1,0],[25,24,23,22,21,20,19,18,17,16,15,14,13,12,11,10,9,8,7,6,5,4,3,2,1,0],[26,25,24,23,22,21,20,19,18,17,16,15,14,13,12,11,10,9,8,7,6,5,4,3,2,1,0],[28,27,26,25,24,23,22,21,20,19,18,17,16,15,14,13,12,11,10,9,8,7,6,5,4,3,2,1,0]] [[],[],[],[],[],[],[],[],[],[],[],[],[],[],[],[],[],[],[],[],[],[],[],[],[],[],[],[],[],[]] [[],[],[],[],[],[],[],[],[],[],[],[],[],[],[],[],[],[],[],[],[],[],[],[],[],[],[],[],[],[]] [[],[],[],[],[],[],[],[],[],[],[],[],[],[],[],[],[],[],[],[],[],[],[],[],[],[],[],[],[],[]] (by kernel_rfl) (by kernel_rfl) ?_
          refine zj 1 rfl rfl rfl tv ?_
          refine zj 2 rfl rfl rfl tv ?_
          obtain ⟨g,h3⟩:=gd_t h3
          refine zj 3 rfl rfl rfl ⟨tv,tv,g.1,g.2⟩ ?_
          refine zj 4 rfl rfl rfl ⟨tv,tv⟩ ?_
          refine zj 5 rfl rfl rfl tv ?_
          obtain ⟨g,h3⟩:=gd_t h3
          refine zj 6 rfl rfl rfl ⟨tv,tv,g.1,g.2⟩ ?_
          refine zj 7 rfl rfl rfl ⟨tv,tv⟩ ?_
          refine zj 8 rfl rfl rfl tv ?_
          refine zj 9 rfl rfl rfl tv ?_
          refine zj 10 rfl rfl rfl tv ?_
          refine zj 11 rfl rfl rfl ⟨tv,tv⟩ ?_
          refine zj 12 rfl rfl rfl tv ?_
          obtain ⟨g,h3⟩:=gd_t h3
          refine zj 13 rfl rfl rfl ⟨tv,tv,g.1,g.2⟩ ?_
          refine zj 14 rfl rfl rfl ⟨tv,tv⟩ ?_
          refine zj 15 rfl rfl rfl tv ?_
          obtain ⟨g,h3⟩:=gd_t h3
          refine zj 16 rfl rfl rfl ⟨tv,tv,g.1,g.2⟩ ?_
          refine zj 17 rfl rfl rfl ⟨tv,tv⟩ ?_
          refine zj 18 rfl rfl rfl tv ?_
          refine zj 19 rfl rfl rfl tv ?_
          obtain ⟨g,h3⟩:=gd_t h3
          refine zj 20 rfl rfl rfl ⟨tv,tv,g.1,g.2⟩ ?_
          refine zj 21 rfl rfl rfl ⟨tv,tv⟩ ?_
          refine zj 22 rfl rfl rfl tv ?_
          obtain ⟨g,h3⟩:=gd_t h3
          refine zj 23 rfl rfl rfl ⟨tv,tv,g.1,g.2⟩ ?_
          refine zj 24 rfl rfl rfl ⟨tv,tv⟩ ?_
          obtain ⟨⟨r939,r940⟩,hr,h3⟩:=bnd h3
          refine AJR_call 25 rfl (Nat.le_of_ble_eq_true rfl) [] rfl (quant_Level.ok0 hr) quant_Level.fnb rfl ⟨tv,⟨tv,⟨tv,⟨tv,tv⟩⟩⟩⟩ rfl tv rfl ?_
          refine zj 26 rfl rfl rfl tv ?_
          refine zj 27 rfl rfl rfl tv ?_
          refine zj 28 rfl rfl rfl tv ?_
          refine zj 29 rfl rfl rfl tv ?_
          refine zj 30 rfl rfl rfl tv ?_
          refine AJR_end rfl rfl rfl ?_
          refine zt ?_
          refine zv 3 rfl ⟨tv,⟨tv,tv,tv⟩,tv,tv⟩ ?_
          refine TL_end ?_
          refine tbn ?_
          refine zt ?_
          refine zv 3 rfl ⟨tv,⟨tv,tv,tv⟩,tv,tv⟩ ?_
          refine zm ?_
          exact TE_nextr [(42201,42201)] n (zs n) (_,_) h3 ⟨rfl,rfl,rfl,rfl,rfl,rfl,rfl,rfl,rfl,rfl,tv⟩ ⟨rfl,rfl,tv⟩ rfl
         ·replace h3:=bif_f h3 hb
          refine TC_exit ?_
          refine tsx ?_
          refine tsx ?_
          refine tbe ?_
          obtain rfl:=sinj h3
          refine tsn ?_
          exact SP_ren [(42001,42201)] _ rfl ⟨rfl,rfl,rfl,rfl,rfl,rfl,rfl,rfl,rfl,tv⟩ ⟨rfl,rfl,tv⟩ rfl
        ·rintro x915 hz
         obtain rfl:=hz.symm
         refine tbn ?_
         refine zt ?_
         refine zv 3 rfl ⟨tv,⟨tv,tv,tv⟩,tv,tv⟩ ?_
         refine zm ?_
         exact TE_nextr [(40301,42001)] n (zs n) (_,_) h2 ⟨rfl,rfl,rfl,rfl,rfl,rfl,rfl,rfl,rfl,tv⟩ ⟨rfl,rfl,tv⟩ rfl
       ·replace h2:=bif_f h2 hb
        refine TC_exit ?_
        refine tsx ?_
        refine tsx ?_
        refine tbe ?_
        obtain rfl:=sinj h2
        refine tsn ?_
        exact SP_ren [(39301,40301)] _ rfl ⟨rfl,rfl,rfl,rfl,rfl,rfl,rfl,tv⟩ ⟨rfl,rfl,tv⟩ rfl
      ·rintro x828 hz
       obtain rfl:=hz.symm
       refine tbn ?_
       refine zt ?_
       refine zv 2 rfl ⟨⟨tv,tv,tv⟩,tv,tv⟩ ?_
       refine zm ?_
       exact TE_nextr [(31201,39301)] n (zs n) (_,_) h1 ⟨rfl,rfl,rfl,rfl,rfl,rfl,rfl,tv⟩ ⟨rfl,rfl,tv⟩ rfl
     ·replace h1:=bif_f h1 hb
      refine TC_exit ?_
      refine tsx ?_
      refine tsx ?_
      refine tbe ?_
      obtain rfl:=sinj h1
      refine tsn ?_
      exact SP_ren [] _ rfl ⟨rfl,rfl,tv⟩ ⟨rfl,tv⟩ rfl
    ·rintro x480 hz
     obtain rfl:=hz.symm
     refine zg ?_
     refine zv 4 rfl ⟨tv,tv,tv,tv,tv⟩ ?_
     refine ze ?_
     refine TC_ret ?_
     obtain rfl:=sinj h0
     exact TE_ret env rfl tv ⟨.inr rfl,tv⟩
theorem subband_Params_share.ok0 {K : Nat} {p0 p1 p2 p3 p4 p5 p6 p7 p8 p9 : Int} {p10 : List Int} {p11 : List (List Int)} {p12 : List (List (List Int))} {q0 : List (List Int)} {q1 : Bool} (h0 : subband_Params_share K p0 p1 p2 p3 p4 p5 p6 p7 p8 p9 p10 p11 p12 = some (q0,q1)) : Fn Tryz.prog 42 [.p 0 0,.agg [.int .i64 p0,.int .i64 p1,.int .i64 p2,.int .i64 p3,.int .i64 p4,.int .i64 p5,.int .i64 p6,.int .i64 p7,.int .i64 p8,.int .i64 p9]] [(0,some (.cells [.im (.slice (.int .i64)) p10,.im (.slice (.slice (.int .i64))) p11,.im (.slice (.slice (.slice (.int .i64)))) p12]))] (.tup [.im (.slice (.slice (.int .i64))) q0,.bool q1]) [(0,some (.cells [.im (.slice (.int .i64)) p10,.im (.slice (.slice (.int .i64))) p11,.im (.slice (.slice (.slice (.int .i64)))) p12]))]:=subband_Params_share.ok h0
theorem subband_Params_share.fnb : fnb Tryz.prog 42 = true:=fnb_of Tryz.func42 rfl
def bits_New.res (_p0 : Int) : (Int) ⊕ ((List Int)) → MV
 | .inl q0=>.tup [.nilp,.int .i64 q0]
 | .inr _=>.tup [.p 1000 0,.int .i64 0]
def bits_New.out (_p0 : Int) : (Int) ⊕ ((List Int)) → List (Nat × Option MObj)
 | .inl _=>[]
 | .inr q0=>[(1000,some (.cells [.int .i64 0,.int .i64 0,.sl 1001])),(1001,some (.rows (.int .u8) q0))]
theorem bits_New.ok {K : Nat} {p0 : Int} {r : (Int) ⊕ ((List Int))} (h0 : bits_New K p0 = some r) : Fn Tryz.prog 43 [.int .i64 p0] [] (bits_New.res p0 r) (bits_New.out p0 r):=by
 refine Fn_of Tryz.func43 rfl (Nat.le_of_ble_eq_true rfl) fun Γ=>?_
 refine zr ?_
 refine zv 2 rfl ⟨tv,tv,tv⟩ ?_
 refine ze ?_
 refine TC_seq ?_
 refine TC_blk ?_
 refine zr ?_
 refine zv 3 rfl ⟨tv,⟨tv,tv,tv⟩,tv,tv⟩ ?_
 refine ze ?_
 refine TC_cond rfl (fun hb=>?_) (fun hb=>?_)
 ·replace h0:=bif_t h0 hb
  refine zr ?_
  refine zv 2 rfl ⟨tv,tv,tv⟩ ?_
  refine ze ?_
  refine TC_ret ?_
  refine tbr ?_
  refine tsr ?_
  obtain rfl:=sinj h0
  exact TE_ret env rfl tv tv
 ·replace h0:=bif_f h0 hb
  refine zr ?_
  refine zv 3 rfl ⟨tv,⟨tv,tv,tv⟩,tv,tv⟩ ?_
  refine ze ?_
  refine TC_cond rfl (fun hb=>?_) (fun hb=>?_)
  ·replace h0:=bif_t h0 hb
   refine zr ?_
   refine zv 2 rfl ⟨tv,tv,tv⟩ ?_
   refine ze ?_
   refine TC_ret ?_
   refine tbr ?_
   refine tsr ?_
   obtain rfl:=sinj h0
   exact TE_ret env rfl tv tv
  ·replace h0:=bif_f h0 hb
   refine TC_skip ?_
   refine tbn ?_
   refine zg ?_
   obtain ⟨g,h0⟩:=gd_t h0
   refine zv 6 rfl ⟨tv,⟨tv,tv,g.1,g.2.1,g.2.2⟩,⟨tv,tv⟩,tv,tv,tv,tv⟩ ?_
   refine ze ?_
   refine TC_ret ?_
   obtain rfl:=sinj h0
   refine TE_renw (A':=[(2,.p 1000 0),(3,.int .i64 0)]) (L':=[(1000,some (.cells [.int .i64 0,.int .i64 0,.sl 1001])),(1001,some (.rows (.int .u8) _))]) [(1000,1013),(1001,1011)] ⟨rfl,rfl,tv⟩ ⟨rfl,rfl,tv⟩ rfl ?_
   exact TE_ret env rfl tv ⟨.inr rfl,.inr rfl,tv⟩
theorem bits_New.ok0 {K : Nat} {p0 q0 : Int} (h0 : bits_New K p0 = some (.inl q0)) : Fn Tryz.prog 43 [.int .i64 p0] [] (.tup [.nilp,.int .i64 q0]) []:=bits_New.ok h0
theorem bits_New.ok1 {K : Nat} {p0 : Int} {q0 : List Int} (h0 : bits_New K p0 = some (.inr q0)) : Fn Tryz.prog 43 [.int .i64 p0] [] (.tup [.p 1000 0,.int .i64 0]) [(1000,some (.cells [.int .i64 0,.int .i64 0,.sl 1001])),(1001,some (.rows (.int .u8) q0))]:=bits_New.ok h0
theorem bits_New.fnb : fnb Tryz.prog 43 = true:=fnb_of Tryz.func43 rfl
def bits_Pad_write.res (_p0 _p1 : Int) : Unit → MV
 | ()=>.int .i64 3
def bits_Pad_write.out (_p0 _p1 : Int) : Unit → List (Nat × Option MObj)
 | ()=>[]
theorem bits_Pad_write.ok {K : Nat} {p0 p1 : Int} {r : Unit} (h0 : bits_Pad_write K p0 p1 = some r) : Fn Tryz.prog 158 [.nilp,.int .u32 p0,.int .i64 p1] [] (bits_Pad_write.res p0 p1 r) (bits_Pad_write.out p0 p1 r):=by
 refine Fn_of Tryz.func158 rfl (Nat.le_of_ble_eq_true rfl) fun Γ=>?_
 refine zr ?_
 refine zv 1 rfl ⟨tv,tv⟩ ?_
 refine ze ?_
 refine TC_seq ?_
 refine zr ?_
 refine zv 2 rfl ⟨tv,⟨tv,tv,tv⟩,tv⟩ ?_
 refine ze ?_
 refine TC_cond rfl (fun hb=>?_) (fun hb=>?_)
 ·refine zr ?_
  refine zv 1 rfl ⟨tv,tv⟩ ?_
  refine ze ?_
  refine TC_ret ?_
  refine tsr ?_
  obtain rfl:=sinj h0
  exact TE_ret env rfl tv tv
 ·first | exact (ftf hb).elim | exact (tff hb).elim | exact absurd hb (by decide)
theorem bits_Pad_write.ok0 {K : Nat} {p0 p1 : Int}  (h0 : bits_Pad_write K p0 p1 = some ()) : Fn Tryz.prog 158 [.nilp,.int .u32 p0,.int .i64 p1] [] (.int .i64 3) []:=bits_Pad_write.ok h0
theorem bits_Pad_write.fnb : fnb Tryz.prog 158 = true:=fnb_of Tryz.func158 rfl
def bits_Pad_Front.res (_p0 _p1 : Int) : Unit → MV
 | ()=>.int .i64 3
def bits_Pad_Front.out (_p0 _p1 : Int) : Unit → List (Nat × Option MObj)
 | ()=>[]
theorem bits_Pad_Front.ok {K : Nat} {p0 p1 : Int} {r : Unit} (h0 : bits_Pad_Front K p0 p1 = some r) : Fn Tryz.prog 106 [.nilp,.int .u32 p0,.int .i64 p1] [] (bits_Pad_Front.res p0 p1 r) (bits_Pad_Front.out p0 p1 r):=by
 refine Fn_of Tryz.func106 rfl (Nat.le_of_ble_eq_true rfl) fun Γ=>?_
 unfold bits_Pad_Front at h0
 refine zr ?_
 refine zv 1 rfl ⟨tv,tv⟩ ?_
 refine ze ?_
 refine TC_seq ?_
 refine zr ?_
 refine zv 3 rfl ⟨tv,tv,tv,tv⟩ ?_
 obtain ⟨⟨⟩,hr,h0⟩:=bnd h0
 refine TL_callB [] (bits_Pad_write.ok0 hr) bits_Pad_write.fnb rfl ⟨tv,⟨tv,⟨tv,⟨tv,tv⟩⟩⟩⟩ rfl tv rfl ?_
 refine zv 1 rfl ⟨tv,tv⟩ ?_
 refine zn ?_
 refine zv 2 rfl ⟨tv,⟨tv,tv,tv⟩,tv⟩ ?_
 refine ze ?_
 refine TC_cond rfl (fun hb=>?_) (fun hb=>?_)
 ·refine zr ?_
  refine zv 2 rfl ⟨tv,tv,tv⟩ ?_
  refine ze ?_
  refine TC_ret ?_
  refine tsr ?_
  obtain rfl:=sinj h0
  exact TE_ret env rfl tv tv
 ·first | exact (ftf hb).elim | exact (tff hb).elim | exact absurd hb (by decide)
theorem bits_Pad_Front.ok0 {K : Nat} {p0 p1 : Int}  (h0 : bits_Pad_Front K p0 p1 = some ()) : Fn Tryz.prog 106 [.nilp,.int .u32 p0,.int .i64 p1] [] (.int .i64 3) []:=bits_Pad_Front.ok h0
theorem bits_Pad_Front.fnb : fnb Tryz.prog 106 = true:=fnb_of Tryz.func106 rfl
def subband_put.res (_p0 : List ((Int × Int))) : Int → MV
 | q0=>.int .i64 q0
def subband_put.out (_p0 : List ((Int × Int))) : Int → List (Nat × Option MObj)
 | _=>[]
theorem subband_put.ok {K : Nat} {p0 : List ((Int × Int))} {r : Int} (h0 : subband_put K p0 = some r) : Fn Tryz.prog 45 [.nilp,.im (.slice (.pair (.int .i64) (.int .i64))) p0] [] (subband_put.res p0 r) (subband_put.out p0 r):=by
 refine Fn_of Tryz.func45 rfl (Nat.le_of_ble_eq_true rfl) fun Γ=>?_
 unfold subband_put at h0
 refine zr ?_
 refine zv 1 rfl ⟨tv,tv⟩ ?_
 refine zn ?_
 refine zv 1 rfl ⟨tv,tv⟩ ?_
 refine ze ?_
 refine TC_seq ?_
 refine zr ?_
 refine zv 3 rfl ⟨tv,⟨tv,tv⟩,tv,tv⟩ ?_
 refine ze ?_
 obtain ⟨z1,h1,h0⟩:=bnd h0
 refine TC_cut (α:=Int) (fun s=>z1 = s) (fun s=>[(5,.int .i64 s)]) (fun s=>[]) ?_ ?_
 ·refine TC_blk ?_
  refine TC_loop (α:=Int × Int) (fun n s=>subband_put.l0 K p0 (p0.length : Int) n s.1 s.2 = some z1) (fun s=>[(0,.nilp),(5,.int .i64 s.1),(8,.im (.slice (.pair (.int .i64) (.int .i64))) p0),(9,.int .i64 (p0.length : Int)),(10,.int .i64 s.2)]) (fun s=>[]) K ?_ ?_
  ·exact SP_ren [] (_,_) h1 ⟨rfl,rfl,rfl,rfl,rfl,tv⟩ tv rfl
  rintro n ⟨x11,x12⟩ h1
  rcases n with _ | n
  ·exact (nsome h1).elim
  replace h1 : subband_put.r0 K p0 (p0.length : Int) (subband_put.l0 K p0 (p0.length : Int) n) x11 x12 = some z1:=h1
  refine zr ?_
  refine zv 1 rfl ⟨⟨tv,tv,tv⟩,tv⟩ ?_
  refine ze ?_
  refine TC_seq ?_
  refine TC_cond rfl (fun hb=>?_) (fun hb=>?_)
  ·replace h1:=bif_t h1 hb
   refine TC_skip ?_
   refine TE_go ?_
   refine TC_seq ?_
   refine TC_blk ?_
   refine zr ?_
   obtain ⟨g,h1⟩:=gd_t h1
   refine zv 4 rfl ⟨⟨tv,tv,g.1,g.2⟩,⟨tv,tv⟩,tv,⟨tv,tv⟩,tv⟩ ?_
   refine zn ?_
   refine zv 6 rfl ⟨tv,⟨tv,tv,(by decide),(by decide)⟩,⟨tv,tv⟩,tv,⟨tv,tv,(by decide),(by decide)⟩,⟨tv,tv⟩,tv⟩ ?_
   obtain ⟨⟨⟩,hr,h1⟩:=bnd h1
   refine TL_callB [] (bits_Pad_Front.ok0 hr) bits_Pad_Front.fnb rfl ⟨tv,⟨tv,⟨tv,⟨tv,tv⟩⟩⟩⟩ rfl tv rfl ?_
   refine ze ?_
   refine TC_reg ?_
   refine zv 5 rfl ⟨tv,⟨tv,tv,(by decide),(by decide)⟩,⟨tv,tv⟩,⟨tv,tv,tv⟩,tv,tv⟩ ?_
   refine TL_end ?_
   refine tbn ?_
   refine zt ?_
   refine zv 2 rfl ⟨⟨tv,tv,tv⟩,tv,tv⟩ ?_
   refine zm ?_
   exact TE_nextr [] n (zs n) (_,_) h1 ⟨rfl,rfl,rfl,rfl,rfl,tv⟩ tv rfl
  ·replace h1:=bif_f h1 hb
   refine TC_exit ?_
   refine tsx ?_
   refine tsx ?_
   refine tbe ?_
   obtain rfl:=sinj h1
   refine tsn ?_
   exact SP_ren [] _ rfl ⟨rfl,tv⟩ tv rfl
 ·rintro x10 hz
  obtain rfl:=hz.symm
  refine zg ?_
  refine zv 2 rfl ⟨tv,tv,tv⟩ ?_
  refine ze ?_
  refine TC_ret ?_
  obtain rfl:=sinj h0
  exact TE_ret env rfl tv tv
theorem subband_put.ok0 {K : Nat} {p0 : List ((Int × Int))} {q0 : Int} (h0 : subband_put K p0 = some q0) : Fn Tryz.prog 45 [.nilp,.im (.slice (.pair (.int .i64) (.int .i64))) p0] [] (.int .i64 q0) []:=subband_put.ok h0
theorem subband_put.fnb : fnb Tryz.prog 45 = true:=fnb_of Tryz.func45 rfl
def subband_head.res (_p0 _p1 _p2 _p3 _p4 _p5 _p6 _p7 _p8 _p9 : Int) : (List ((Int × Int))) → MV
 | q0=>.im (.slice (.pair (.int .i64) (.int .i64))) q0
def subband_head.out (_p0 _p1 _p2 _p3 _p4 _p5 _p6 _p7 _p8 _p9 : Int) : (List ((Int × Int))) → List (Nat × Option MObj)
 | _=>[]
theorem subband_head.ok {K : Nat} {p0 p1 p2 p3 p4 p5 p6 p7 p8 p9 : Int} {r : (List ((Int × Int)))} (h0 : subband_head K p0 p1 p2 p3 p4 p5 p6 p7 p8 p9 = some r) : Fn Tryz.prog 46 [.agg [.int .i64 p0,.int .i64 p1,.int .i64 p2,.int .i64 p3,.int .i64 p4,.int .i64 p5,.int .i64 p6,.int .i64 p7,.int .i64 p8,.int .i64 p9]] [] (subband_head.res p0 p1 p2 p3 p4 p5 p6 p7 p8 p9 r) (subband_head.out p0 p1 p2 p3 p4 p5 p6 p7 p8 p9 r):=by
 refine Fn_of Tryz.func46 rfl (Nat.le_of_ble_eq_true rfl) fun Γ=>?_
 refine zr ?_
 refine zv 2 rfl ⟨tv,tv,tv⟩ ?_
 refine zn ?_
 refine zv 1 rfl ⟨tv,tv⟩ ?_
 refine ze ?_
 refine TC_seq ?_
 refine zr ?_
 refine zv 3 rfl ⟨tv,⟨tv,tv⟩,⟨tv,tv,tv⟩,tv⟩ ?_
 refine ze ?_
 obtain ⟨z1,h1,h0⟩:=bnd h0
 refine TC_cut (α:=Int) (fun s=>z1 = s) (fun s=>[(1,.p 10200 0),(3,.int .i64 s)]) (fun s=>[(10200,some (.cells [.int .i64 p0,.int .i64 p1,.int .i64 p2,.int .i64 p3,.int .i64 p4,.int .i64 p5,.int .i64 p6,.int .i64 p7,.int .i64 p8,.int .i64 p9]))]) ?_ ?_
 ·refine TC_cond rfl (fun hb=>?_) (fun hb=>?_)
  ·replace h1:=bif_t h1 hb
   refine TC_reg ?_
   refine zv 4 rfl ⟨tv,⟨tv,tv⟩,⟨tv,tv,tv⟩,tv,tv⟩ ?_
   refine TL_end ?_
   obtain rfl:=sinj h1
   refine tsn ?_
   exact SP_ren [(10200,1001)] _ rfl ⟨rfl,rfl,tv⟩ ⟨rfl,tv⟩ rfl
  ·replace h1:=bif_f h1 hb
   refine TC_skip ?_
   obtain rfl:=sinj h1
   refine tsn ?_
   exact SP_ren [(10200,1001)] _ rfl ⟨rfl,rfl,tv⟩ ⟨rfl,tv⟩ rfl
 ·rintro x2 hz
  obtain rfl:=hz.symm
  refine zg ?_
  refine zv 23 rfl ⟨tv,⟨tv,tv⟩,⟨tv,tv,tv⟩,tv,⟨tv,tv⟩,⟨tv,tv,(by decide)⟩,⟨tv,tv,tv⟩,⟨tv,tv,tv⟩,tv,⟨tv,tv,tv⟩,tv,⟨tv,tv⟩,⟨tv,tv,tv⟩,tv,⟨tv,tv⟩,⟨tv,tv,(by decide)⟩,⟨tv,tv,tv⟩,⟨tv,tv,tv⟩,tv,⟨tv,tv⟩,⟨tv,tv,tv⟩,⟨tv,tv,tv,tv,tv,tv,tv⟩,tv,tv⟩ ?_
  refine ze ?_
  refine TC_ret ?_
  refine TE_frz 1031 rfl ?_
  obtain rfl:=sinj h0
  exact TE_ret env rfl tv tv
theorem subband_head.ok0 {K : Nat} {p0 p1 p2 p3 p4 p5 p6 p7 p8 p9 : Int} {q0 : List ((Int × Int))} (h0 : subband_head K p0 p1 p2 p3 p4 p5 p6 p7 p8 p9 = some q0) : Fn Tryz.prog 46 [.agg [.int .i64 p0,.int .i64 p1,.int .i64 p2,.int .i64 p3,.int .i64 p4,.int .i64 p5,.int .i64 p6,.int .i64 p7,.int .i64 p8,.int .i64 p9]] [] (.im (.slice (.pair (.int .i64) (.int .i64))) q0) []:=subband_head.ok h0
theorem subband_head.fnb : fnb Tryz.prog 46 = true:=fnb_of Tryz.func46 rfl
def subband_Params_side.res (_p0 _p1 _p2 _p3 _p4 _p5 _p6 _p7 _p8 _p9 : Int) (_p10 : List Int) (_p11 : List (List Int)) (_p12 : List (List (List Int))) : (List ((Int × Int))) → MV
 | q0=>.im (.slice (.pair (.int .i64) (.int .i64))) q0
def subband_Params_side.out (_p0 _p1 _p2 _p3 _p4 _p5 _p6 _p7 _p8 _p9 : Int) (p10 : List Int) (p11 : List (List Int)) (p12 : List (List (List Int))) : (List ((Int × Int))) → List (Nat × Option MObj)
 | _=>[(0,some (.cells [.im (.slice (.int .i64)) p10,.im (.slice (.slice (.int .i64))) p11,.im (.slice (.slice (.slice (.int .i64)))) p12]))]
theorem subband_Params_side.ok {K : Nat} {p0 p1 p2 p3 p4 p5 p6 p7 p8 p9 : Int} {p10 : List Int} {p11 : List (List Int)} {p12 : List (List (List Int))} {r : (List ((Int × Int)))} (h0 : subband_Params_side K p0 p1 p2 p3 p4 p5 p6 p7 p8 p9 p10 p11 p12 = some r) : Fn Tryz.prog 48 [.p 0 0,.agg [.int .i64 p0,.int .i64 p1,.int .i64 p2,.int .i64 p3,.int .i64 p4,.int .i64 p5,.int .i64 p6,.int .i64 p7,.int .i64 p8,.int .i64 p9]] [(0,some (.cells [.im (.slice (.int .i64)) p10,.im (.slice (.slice (.int .i64))) p11,.im (.slice (.slice (.slice (.int .i64)))) p12]))] (subband_Params_side.res p0 p1 p2 p3 p4 p5 p6 p7 p8 p9 p10 p11 p12 r) (subband_Params_side.out p0 p1 p2 p3 p4 p5 p6 p7 p8 p9 p10 p11 p12 r):=by
 refine Fn_of Tryz.func48 rfl (Nat.le_of_ble_eq_true rfl) fun Γ=>?_
 refine zr ?_
 refine zv 2 rfl ⟨tv,tv,tv⟩ ?_
 refine zn ?_
 refine zv 1 rfl ⟨tv,tv⟩ ?_
 refine ze ?_
 refine TC_seq ?_
 refine zr ?_
 refine zv 3 rfl ⟨tv,⟨tv,tv⟩,⟨tv,tv,tv⟩,tv⟩ ?_
 refine ze ?_
 obtain ⟨z1,h1,h0⟩:=bnd h0
 refine TC_cut (α:=(List ((Int × Int)))) (fun s=>z1 = s) (fun s=>[(0,.p 0 0),(5,.sl 13001)]) (fun s=>[(0,some (.cells [.im (.slice (.int .i64)) p10,.im (.slice (.slice (.int .i64))) p11,.im (.slice (.slice (.slice (.int .i64)))) p12])),(13001,some (.rows (.pair (.int .i64) (.int .i64)) s))]) ?_ ?_
 ·refine TC_cond rfl (fun hb=>?_) (fun hb=>?_)
  ·replace h1:=bif_t h1 hb
   refine zr ?_
   refine zv 6 rfl ⟨tv,tv,tv,⟨tv,tv⟩,⟨tv,tv⟩,tv,tv⟩ ?_
   refine ze ?_
   obtain ⟨z2,h2,h1⟩:=bnd h1
   refine TC_cut (α:=(List ((Int × Int)))) (fun s=>z2 = s) (fun s=>[(0,.p 0 0),(5,.sl 18401)]) (fun s=>[(0,some (.cells [.im (.slice (.int .i64)) p10,.im (.slice (.slice (.int .i64))) p11,.im (.slice (.slice (.slice (.int .i64)))) p12])),(18401,some (.rows (.pair (.int .i64) (.int .i64)) s))]) ?_ ?_
   ·refine TC_blk ?_
    refine TC_loop (α:=Int × (List ((Int × Int)))) (fun n s=>subband_Params_side.l2 K p10 (p10.length : Int) p11 p12 n s.1 s.2 = some z2) (fun s=>[(0,.p 0 0),(5,.sl 18601),(18,.im (.slice (.int .i64)) p10),(19,.int .i64 (p10.length : Int)),(20,.int .i64 s.1)]) (fun s=>[(0,some (.cells [.im (.slice (.int .i64)) p10,.im (.slice (.slice (.int .i64))) p11,.im (.slice (.slice (.slice (.int .i64)))) p12])),(18601,some (.rows (.pair (.int .i64) (.int .i64)) s.2))]) K ?_ ?_
    ·refine TE_own 5 7005 (.pair (.int .i64) (.int .i64)) rfl (by decide) rfl rfl ?_
     exact SP_ren [(18601,7005)] (_,_) h2 ⟨rfl,rfl,rfl,rfl,rfl,tv⟩ ⟨rfl,rfl,tv⟩ rfl
    rintro n ⟨x114,x115⟩ h2
    rcases n with _ | n
    ·exact (nsome h2).elim
    replace h2 : subband_Params_side.r2 K p10 (p10.length : Int) p11 p12 (subband_Params_side.l2 K p10 (p10.length : Int) p11 p12 n) x114 x115 = some z2:=h2
    refine zr ?_
    refine zv 1 rfl ⟨⟨tv,tv,tv⟩,tv⟩ ?_
    refine ze ?_
    refine TC_seq ?_
    refine TC_cond rfl (fun hb=>?_) (fun hb=>?_)
    ·replace h2:=bif_t h2 hb
     refine TC_skip ?_
     refine TE_go ?_
     refine TC_seq ?_
     refine TC_blk ?_
     refine zr ?_
     obtain ⟨g,h2⟩:=gd_t h2
     refine zv 3 rfl ⟨⟨tv,tv,g.1,g.2⟩,⟨tv,tv⟩,tv,tv⟩ ?_
     refine ze ?_
     refine TC_reg ?_
     obtain ⟨g,h2⟩:=gd_t h2
     refine zv 6 rfl ⟨tv,tv,⟨tv,tv,tv⟩,⟨tv,tv⟩,⟨⟨tv,tv,tv⟩,g⟩,tv,tv⟩ ?_
     refine TL_end ?_
     refine tbn ?_
     refine zt ?_
     refine zv 2 rfl ⟨⟨tv,tv,tv⟩,tv,tv⟩ ?_
     refine zm ?_
     exact TE_nextr [(18601,1028)] n (zs n) (_,_) h2 ⟨rfl,rfl,rfl,rfl,rfl,tv⟩ ⟨rfl,rfl,tv⟩ rfl
    ·replace h2:=bif_f h2 hb
     refine TC_exit ?_
     refine tsx ?_
     refine tsx ?_
     refine tbe ?_
     obtain rfl:=sinj h2
     refine tsn ?_
     exact SP_ren [(18401,18601)] _ rfl ⟨rfl,rfl,tv⟩ ⟨rfl,rfl,tv⟩ rfl
   ·rintro x113 hz
    obtain rfl:=hz.symm
    obtain rfl:=sinj h1
    refine tsn ?_
    exact SP_ren [(13001,18401)] _ rfl ⟨rfl,rfl,tv⟩ ⟨rfl,rfl,tv⟩ rfl
  ·replace h1:=bif_f h1 hb
   refine TC_skip ?_
   obtain rfl:=sinj h1
   refine tsn ?_
   refine TE_own 5 7005 (.pair (.int .i64) (.int .i64)) rfl (by decide) rfl rfl ?_
   exact SP_ren [(13001,7005)] _ rfl ⟨rfl,rfl,tv⟩ ⟨rfl,rfl,tv⟩ rfl
 ·rintro x37 hz
  obtain rfl:=hz.symm
  refine TE_go ?_
  refine TC_seq ?_
  refine zr ?_
  refine zv 6 rfl ⟨tv,tv,tv,⟨tv,tv⟩,⟨tv,tv⟩,tv,tv⟩ ?_
  refine ze ?_
  obtain ⟨z1,h1,h0⟩:=bnd h0
  refine TC_cut (α:=(List ((Int × Int)))) (fun s=>z1 = s) (fun s=>[(5,.sl 15001)]) (fun s=>[(0,some (.cells [.im (.slice (.int .i64)) p10,.im (.slice (.slice (.int .i64))) p11,.im (.slice (.slice (.slice (.int .i64)))) p12])),(15001,some (.rows (.pair (.int .i64) (.int .i64)) s))]) ?_ ?_
  ·refine TC_blk ?_
   refine TC_loop (α:=Int × (List ((Int × Int)))) (fun n s=>subband_Params_side.l0 K p11 (p11.length : Int) p10 p12 n s.1 s.2 = some z1) (fun s=>[(5,.sl 16001),(33,.im (.slice (.slice (.int .i64))) p11),(34,.int .i64 (p11.length : Int)),(35,.int .i64 s.1)]) (fun s=>[(0,some (.cells [.im (.slice (.int .i64)) p10,.im (.slice (.slice (.int .i64))) p11,.im (.slice (.slice (.slice (.int .i64)))) p12])),(16001,some (.rows (.pair (.int .i64) (.int .i64)) s.2))]) K ?_ ?_
   ·exact SP_ren [(16001,13001)] (_,_) h1 ⟨rfl,rfl,rfl,rfl,tv⟩ ⟨rfl,rfl,tv⟩ rfl
   rintro n ⟨x73,x74⟩ h1
   rcases n with _ | n
   ·exact (nsome h1).elim
   replace h1 : subband_Params_side.r0 K p11 (p11.length : Int) p10 p12 (subband_Params_side.l0 K p11 (p11.length : Int) p10 p12 n) x73 x74 = some z1:=h1
   refine zr ?_
   refine zv 1 rfl ⟨⟨tv,tv,tv⟩,tv⟩ ?_
   refine ze ?_
   refine TC_seq ?_
   refine TC_cond rfl (fun hb=>?_) (fun hb=>?_)
   ·replace h1:=bif_t h1 hb
    refine TC_skip ?_
    refine TE_go ?_
    refine TC_seq ?_
    refine TC_blk ?_
    refine zr ?_
    obtain ⟨g,h1⟩:=gd_t h1
    refine zv 3 rfl ⟨⟨tv,tv,g.1,g.2⟩,⟨tv,tv⟩,tv,tv⟩ ?_
    refine zn ?_
    refine zv 3 rfl ⟨tv,⟨tv,tv⟩,tv,tv⟩ ?_
    refine ze ?_
    obtain ⟨z2,h2,h1⟩:=bnd h1
    refine TC_cut (α:=(List ((Int × Int)))) (fun s=>z2 = s) (fun s=>[(5,.sl 17701),(33,.im (.slice (.slice (.int .i64))) p11),(34,.int .i64 (p11.length : Int)),(35,.int .i64 x73)]) (fun s=>[(0,some (.cells [.im (.slice (.int .i64)) p10,.im (.slice (.slice (.int .i64))) p11,.im (.slice (.slice (.slice (.int .i64)))) p12])),(17701,some (.rows (.pair (.int .i64) (.int .i64)) s))]) ?_ ?_
    ·refine TC_blk ?_
     refine TC_loop (α:=Int × (List ((Int × Int)))) (fun n s=>subband_Params_side.l1 K p11 (p11.length : Int) x73 (Kd.nth (.slice (.int .i64)) p11 (Int.toNat x73)) ((Kd.nth (.slice (.int .i64)) p11 (Int.toNat x73)).length : Int) p10 p12 n s.1 s.2 = some z2) (fun s=>[(5,.sl 17901),(33,.im (.slice (.slice (.int .i64))) p11),(34,.int .i64 (p11.length : Int)),(35,.int .i64 x73),(39,.im (.slice (.int .i64)) (Kd.nth (.slice (.int .i64)) p11 (Int.toNat x73))),(40,.int .i64 ((Kd.nth (.slice (.int .i64)) p11 (Int.toNat x73)).length : Int)),(41,.int .i64 s.1)]) (fun s=>[(0,some (.cells [.im (.slice (.int .i64)) p10,.im (.slice (.slice (.int .i64))) p11,.im (.slice (.slice (.slice (.int .i64)))) p12])),(17901,some (.rows (.pair (.int .i64) (.int .i64)) s.2))]) K ?_ ?_
     ·exact SP_ren [(17901,16001)] (_,_) h2 ⟨rfl,rfl,rfl,rfl,rfl,rfl,rfl,tv⟩ ⟨rfl,rfl,tv⟩ rfl
     rintro n ⟨x101,x102⟩ h2
     rcases n with _ | n
     ·exact (nsome h2).elim
     replace h2 : subband_Params_side.r1 K p11 (p11.length : Int) x73 (Kd.nth (.slice (.int .i64)) p11 (Int.toNat x73)) ((Kd.nth (.slice (.int .i64)) p11 (Int.toNat x73)).length : Int) p10 p12 (subband_Params_side.l1 K p11 (p11.length : Int) x73 (Kd.nth (.slice (.int .i64)) p11 (Int.toNat x73)) ((Kd.nth (.slice (.int .i64)) p11 (Int.toNat x73)).length : Int) p10 p12 n) x101 x102 = some z2:=h2
     refine zr ?_
     refine zv 1 rfl ⟨⟨tv,tv,tv⟩,tv⟩ ?_
     refine ze ?_
     refine TC_seq ?_
     refine TC_cond rfl (fun hb=>?_) (fun hb=>?_)
     ·replace h2:=bif_t h2 hb
      refine TC_skip ?_
      refine TE_go ?_
      refine TC_seq ?_
      refine TC_blk ?_
      refine zr ?_
      obtain ⟨g,h2⟩:=gd_t h2
      refine zv 3 rfl ⟨⟨tv,tv,g.1,g.2⟩,⟨tv,tv⟩,tv,tv⟩ ?_
      refine ze ?_
      refine TC_reg ?_
      obtain ⟨g,h2⟩:=gd_t h2
      refine zv 6 rfl ⟨tv,tv,⟨tv,tv,tv⟩,⟨tv,tv⟩,⟨⟨tv,tv,tv⟩,g⟩,tv,tv⟩ ?_
      refine TL_end ?_
      refine tbn ?_
      refine zt ?_
      refine zv 2 rfl ⟨⟨tv,tv,tv⟩,tv,tv⟩ ?_
      refine zm ?_
      exact TE_nextr [(17901,1049)] n (zs n) (_,_) h2 ⟨rfl,rfl,rfl,rfl,rfl,rfl,rfl,tv⟩ ⟨rfl,rfl,tv⟩ rfl
     ·replace h2:=bif_f h2 hb
      refine TC_exit ?_
      refine tsx ?_
      refine tsx ?_
      refine tbe ?_
      obtain rfl:=sinj h2
      refine tsn ?_
      exact SP_ren [(17701,17901)] _ rfl ⟨rfl,rfl,rfl,rfl,tv⟩ ⟨rfl,rfl,tv⟩ rfl
    ·rintro x99 hz
     obtain rfl:=hz.symm
     refine tbn ?_
     refine zt ?_
     refine zv 2 rfl ⟨⟨tv,tv,tv⟩,tv,tv⟩ ?_
     refine zm ?_
     exact TE_nextr [(16001,17701)] n (zs n) (_,_) h1 ⟨rfl,rfl,rfl,rfl,tv⟩ ⟨rfl,rfl,tv⟩ rfl
   ·replace h1:=bif_f h1 hb
    refine TC_exit ?_
    refine tsx ?_
    refine tsx ?_
    refine tbe ?_
    obtain rfl:=sinj h1
    refine tsn ?_
    exact SP_ren [(15001,16001)] _ rfl ⟨rfl,tv⟩ ⟨rfl,rfl,tv⟩ rfl
  ·rintro x62 hz
   obtain rfl:=hz.symm
   refine zg ?_
   refine zv 2 rfl ⟨tv,tv,tv⟩ ?_
   refine ze ?_
   refine TC_ret ?_
   refine TE_frz 15001 rfl ?_
   obtain rfl:=sinj h0
   exact TE_ret env rfl tv ⟨.inr rfl,tv⟩
theorem subband_Params_side.ok0 {K : Nat} {p0 p1 p2 p3 p4 p5 p6 p7 p8 p9 : Int} {p10 : List Int} {p11 : List (List Int)} {p12 : List (List (List Int))} {q0 : List ((Int × Int))} (h0 : subband_Params_side K p0 p1 p2 p3 p4 p5 p6 p7 p8 p9 p10 p11 p12 = some q0) : Fn Tryz.prog 48 [.p 0 0,.agg [.int .i64 p0,.int .i64 p1,.int .i64 p2,.int .i64 p3,.int .i64 p4,.int .i64 p5,.int .i64 p6,.int .i64 p7,.int .i64 p8,.int .i64 p9]] [(0,some (.cells [.im (.slice (.int .i64)) p10,.im (.slice (.slice (.int .i64))) p11,.im (.slice (.slice (.slice (.int .i64)))) p12]))] (.im (.slice (.pair (.int .i64) (.int .i64))) q0) [(0,some (.cells [.im (.slice (.int .i64)) p10,.im (.slice (.slice (.int .i64))) p11,.im (.slice (.slice (.slice (.int .i64)))) p12]))]:=subband_Params_side.ok h0
theorem subband_Params_side.fnb : fnb Tryz.prog 48 = true:=fnb_of Tryz.func48 rfl
def bits_Pad_Bytes.res  : (List Int) → MV
 | q0=>.im (.slice (.int .u8)) q0
def bits_Pad_Bytes.out  : (List Int) → List (Nat × Option MObj)
 | _=>[]
theorem bits_Pad_Bytes.ok {K : Nat}  {r : (List Int)} (h0 : bits_Pad_Bytes K  = some r) : Fn Tryz.prog 50 [.nilp] [] (bits_Pad_Bytes.res  r) (bits_Pad_Bytes.out  r):=by
 refine Fn_of Tryz.func50 rfl (Nat.le_of_ble_eq_true rfl) fun Γ=>?_
 refine zr ?_
 refine zv 1 rfl ⟨tv,tv⟩ ?_
 refine ze ?_
 refine TC_seq ?_
 refine zr ?_
 refine zv 2 rfl ⟨tv,⟨tv,tv,tv⟩,tv⟩ ?_
 refine ze ?_
 refine TC_cond rfl (fun hb=>?_) (fun hb=>?_)
 ·refine zr ?_
  refine zv 1 rfl ⟨tv,tv⟩ ?_
  refine ze ?_
  refine TC_ret ?_
  refine tsr ?_
  refine TE_imn 2 (.int .u8) rfl ?_
  obtain rfl:=sinj h0
  exact TE_ret env rfl tv tv
 ·first | exact (ftf hb).elim | exact (tff hb).elim | exact absurd hb (by decide)
theorem bits_Pad_Bytes.ok0 {K : Nat}  {q0 : List Int} (h0 : bits_Pad_Bytes K  = some q0) : Fn Tryz.prog 50 [.nilp] [] (.im (.slice (.int .u8)) q0) []:=bits_Pad_Bytes.ok h0
theorem bits_Pad_Bytes.fnb : fnb Tryz.prog 50 = true:=fnb_of Tryz.func50 rfl
def check_of.res (_p0 : Int) : Int × Int × Int × Int → MV
 | (q0,q1,q2,q3)=>.tup [.agg [.int .i64 q0,.int .u32 q1,.int .u32 q2],.int .i64 q3]
def check_of.out (_p0 : Int) : Int × Int × Int × Int → List (Nat × Option MObj)
 | (_,_,_,_)=>[]
theorem check_of.ok {K : Nat} {p0 : Int} {r : Int × Int × Int × Int} (h0 : check_of K p0 = some r) : Fn Tryz.prog 159 [.int .i64 p0] [] (check_of.res p0 r) (check_of.out p0 r):=by
 refine Fn_of Tryz.func159 rfl (Nat.le_of_ble_eq_true rfl) fun Γ=>?_
 refine zr ?_
 refine zv 2 rfl ⟨tv,tv,tv⟩ ?_
 refine ze ?_
 refine TC_seq ?_
 refine zr ?_
 refine zv 1 rfl ⟨tv,tv⟩ ?_
 refine ze ?_
 refine TC_blk ?_
 refine zr ?_
 refine zv 2 rfl ⟨⟨tv,tv,tv⟩,tv,tv⟩ ?_
 refine ze ?_
 refine TC_cond rfl (fun hb=>?_) (fun hb=>?_)
 ·replace h0:=bif_t h0 hb
  refine zr ?_
  refine zv 3 rfl ⟨⟨tv,tv,tv,tv⟩,⟨tv,tv⟩,tv,tv⟩ ?_
  refine ze ?_
  refine TC_ret ?_
  refine tbr ?_
  refine tsr ?_
  obtain rfl:=sinj h0
  exact TE_ret env rfl ⟨tv,tv⟩ tv
 ·replace h0:=bif_f h0 hb
  refine zr ?_
  refine zv 2 rfl ⟨⟨tv,tv,tv⟩,tv,tv⟩ ?_
  refine ze ?_
  refine TC_cond rfl (fun hb=>?_) (fun hb=>?_)
  ·replace h0:=bif_t h0 hb
   refine zr ?_
   refine zv 3 rfl ⟨⟨tv,tv,tv,tv⟩,⟨tv,tv⟩,tv,tv⟩ ?_
   refine ze ?_
   refine TC_ret ?_
   refine tbr ?_
   refine tsr ?_
   obtain rfl:=sinj h0
   exact TE_ret env rfl ⟨tv,tv⟩ tv
  ·replace h0:=bif_f h0 hb
   refine zr ?_
   refine zv 2 rfl ⟨⟨tv,tv,tv⟩,tv,tv⟩ ?_
   refine ze ?_
   refine TC_cond rfl (fun hb=>?_) (fun hb=>?_)
   ·replace h0:=bif_t h0 hb
    refine zr ?_
    refine zv 3 rfl ⟨⟨tv,tv,tv,tv⟩,⟨tv,tv⟩,tv,tv⟩ ?_
    refine ze ?_
    refine TC_ret ?_
    refine tbr ?_
    refine tsr ?_
    obtain rfl:=sinj h0
    exact TE_ret env rfl ⟨tv,tv⟩ tv
   ·replace h0:=bif_f h0 hb
    refine TC_skip ?_
    refine tbn ?_
    refine zg ?_
    refine zv 3 rfl ⟨tv,⟨tv,tv⟩,tv,tv⟩ ?_
    refine ze ?_
    refine TC_ret ?_
    obtain rfl:=sinj h0
    exact TE_ret env rfl ⟨tv,tv⟩ tv
theorem check_of.ok0 {K : Nat} {p0 q0 q1 q2 q3 : Int} (h0 : check_of K p0 = some (q0,q1,q2,q3)) : Fn Tryz.prog 159 [.int .i64 p0] [] (.tup [.agg [.int .i64 q0,.int .u32 q1,.int .u32 q2],.int .i64 q3]) []:=check_of.ok h0
theorem check_of.fnb : fnb Tryz.prog 159 = true:=fnb_of Tryz.func159 rfl
def check_kind_next.res (_p0 _p1 _p2 _p3 _p4 : Int) : Int → MV
 | q0=>.int .u32 q0
def check_kind_next.out (_p0 _p1 _p2 _p3 _p4 : Int) : Int → List (Nat × Option MObj)
 | _=>[]
theorem check_kind_next.ok {K : Nat} {p0 p1 p2 p3 p4 r : Int} (h0 : check_kind_next K p0 p1 p2 p3 p4 = some r) : Fn Tryz.prog 187 [.agg [.int .i64 p0,.int .u32 p1,.int .u32 p2],.int .u32 p3,.int .u32 p4] [] (check_kind_next.res p0 p1 p2 p3 p4 r) (check_kind_next.out p0 p1 p2 p3 p4 r):=by
 refine Fn_of Tryz.func187 rfl (Nat.le_of_ble_eq_true rfl) fun Γ=>?_
 refine zr ?_
 refine zv 2 rfl ⟨tv,tv,tv⟩ ?_
 refine zn ?_
 obtain ⟨g,h0⟩:=gd_t h0
 refine zv 6 rfl ⟨tv,tv,⟨tv,tv⟩,⟨tv,tv,tv⟩,⟨tv,tv,g⟩,tv,tv⟩ ?_
 refine zn ?_
 obtain ⟨g,h0⟩:=gd_t h0
 refine zv 8 rfl ⟨tv,⟨tv,tv,(by decide)⟩,tv,⟨tv,tv⟩,⟨tv,tv,g⟩,⟨tv,tv,tv⟩,⟨tv,tv,tv⟩,tv,tv⟩ ?_
 refine ze ?_
 refine TC_seq ?_
 refine zr ?_
 refine zv 3 rfl ⟨tv,tv,⟨tv,tv,tv⟩,tv⟩ ?_
 refine ze ?_
 obtain ⟨z1,h1,h0⟩:=bnd h0
 refine TC_cut (α:=Int) (fun s=>z1 = s) (fun s=>[(1,.int .u32 s)]) (fun s=>[]) ?_ ?_
 ·refine TC_cond rfl (fun hb=>?_) (fun hb=>?_)
  ·replace h1:=bif_t h1 hb
   refine TC_reg ?_
   refine zv 5 rfl ⟨tv,tv,⟨tv,tv⟩,⟨tv,tv,tv⟩,tv,tv⟩ ?_
   refine TL_end ?_
   obtain rfl:=sinj h1
   refine tsn ?_
   exact SP_ren [] _ rfl ⟨rfl,tv⟩ tv rfl
  ·replace h1:=bif_f h1 hb
   refine TC_skip ?_
   obtain rfl:=sinj h1
   refine tsn ?_
   exact SP_ren [] _ rfl ⟨rfl,tv⟩ tv rfl
 ·rintro x8 hz
  obtain rfl:=hz.symm
  refine zg ?_
  refine zv 2 rfl ⟨tv,tv,tv⟩ ?_
  refine ze ?_
  refine TC_ret ?_
  obtain rfl:=sinj h0
  exact TE_ret env rfl tv tv
theorem check_kind_next.ok0 {K : Nat} {p0 p1 p2 p3 p4 q0 : Int} (h0 : check_kind_next K p0 p1 p2 p3 p4 = some q0) : Fn Tryz.prog 187 [.agg [.int .i64 p0,.int .u32 p1,.int .u32 p2],.int .u32 p3,.int .u32 p4] [] (.int .u32 q0) []:=check_kind_next.ok h0
theorem check_kind_next.fnb : fnb Tryz.prog 187 = true:=fnb_of Tryz.func187 rfl
def check_kind_sum.res (_p0 _p1 _p2 : Int) (_p3 : List Int) (_p4 : Int) : Int → MV
 | q0=>.int .u32 q0
def check_kind_sum.out (_p0 _p1 _p2 : Int) (_p3 : List Int) (_p4 : Int) : Int → List (Nat × Option MObj)
 | _=>[]
theorem check_kind_sum.ok {K : Nat} {p0 p1 p2 : Int} {p3 : List Int} {p4 r : Int} (h0 : check_kind_sum K p0 p1 p2 p3 p4 = some r) : Fn Tryz.prog 160 [.agg [.int .i64 p0,.int .u32 p1,.int .u32 p2],.im (.slice (.int .u8)) p3,.int .i64 p4] [] (check_kind_sum.res p0 p1 p2 p3 p4 r) (check_kind_sum.out p0 p1 p2 p3 p4 r):=by
 refine Fn_of Tryz.func160 rfl (Nat.le_of_ble_eq_true rfl) fun Γ=>?_
 refine zr ?_
 refine zv 2 rfl ⟨tv,tv,tv⟩ ?_
 refine zn ?_
 refine zv 3 rfl ⟨tv,⟨tv,tv⟩,tv,tv⟩ ?_
 refine ze ?_
 refine TC_seq ?_
 refine zr ?_
 refine zv 2 rfl ⟨tv,tv,tv⟩ ?_
 refine ze ?_
 obtain ⟨z1,h1,h0⟩:=bnd h0
 refine TC_cut (α:=Int) (fun s=>z1 = s) (fun s=>[(7,.int .u32 s)]) (fun s=>[]) ?_ ?_
 ·refine TC_blk ?_
  refine TC_loop (α:=Int × Int) (fun n s=>check_kind_sum.l0 K p3 p4 p0 p1 p2 n s.1 s.2 = some z1) (fun s=>[(1,.im (.slice (.int .u8)) p3),(3,.p 11000 0),(7,.int .u32 s.1),(11,.int .i64 p4),(12,.int .i64 s.2)]) (fun s=>[(11000,some (.cells [.int .i64 p0,.int .u32 p1,.int .u32 p2]))]) K ?_ ?_
  ·exact SP_ren [(11000,1003)] (_,_) h1 ⟨rfl,rfl,rfl,rfl,rfl,tv⟩ ⟨rfl,tv⟩ rfl
  rintro n ⟨x21,x22⟩ h1
  rcases n with _ | n
  ·exact (nsome h1).elim
  replace h1 : check_kind_sum.r0 K p3 p4 p0 p1 p2 (check_kind_sum.l0 K p3 p4 p0 p1 p2 n) x21 x22 = some z1:=h1
  refine zr ?_
  refine zv 1 rfl ⟨⟨tv,tv,tv⟩,tv⟩ ?_
  refine ze ?_
  refine TC_seq ?_
  refine TC_cond rfl (fun hb=>?_) (fun hb=>?_)
  ·replace h1:=bif_t h1 hb
   refine TC_skip ?_
   refine TE_go ?_
   refine TC_seq ?_
   refine TC_blk ?_
   refine zr ?_
   refine zv 2 rfl ⟨tv,tv,tv⟩ ?_
   refine ze ?_
   refine TC_renw (A':=[(1,.im (.slice (.int .u8)) _),(3,.p 11000 0),(7,.int .u32 _),(8,.int .i64 _),(11,.int .i64 _),(12,.int .i64 _)]) (L':=[(11000,some (.cells [.int .i64 _,.int .u32 _,.int .u32 _]))]) [] ⟨rfl,rfl,rfl,rfl,rfl,rfl,tv⟩ ⟨rfl,tv⟩ rfl ?_
   refine zd [[],[],[],[],[3],[4,3,2],[5,4,3,2],[6,5,4,3,2],[],[8],[9,8],[10,9,8,7,6,5,4,3,2],[11,10,9,8,7,6,5,4,3,2],[12,11,10,9,8,7,6,5,4,3,2,1,0],[13,12,11,10,9,8,7,6,5,4,3,2,1,0]] [[],[],[],[],[],[],[],[],[],[],[],[],[],[],[]] [[],[],[],[],[],[],[],[],[],[],[],[],[],[],[]] [[],[],[],[],[],[],[],[],[],[],[],[],[],[],[]] (by kernel_rfl) (by kernel_rfl) ?_
   refine zj 1 rfl rfl rfl ⟨tv,tv⟩ ?_
   refine zj 2 rfl rfl rfl tv ?_
   refine zj 3 rfl rfl rfl tv ?_
   refine zj 4 rfl rfl rfl tv ?_
   refine zj 5 rfl rfl rfl ⟨tv,tv,(by decide)⟩ ?_
   obtain ⟨g,h1⟩:=gd_t h1
   refine zj 6 rfl rfl rfl ⟨tv,tv,g.1,g.2⟩ ?_
   refine zj 7 rfl rfl rfl ⟨tv,tv⟩ ?_
   refine zj 8 rfl rfl rfl tv ?_
   refine zj 9 rfl rfl rfl tv ?_
   refine zj 10 rfl rfl rfl ⟨tv,tv,(by decide)⟩ ?_
   refine zj 11 rfl rfl rfl ⟨tv,tv,tv⟩ ?_
   obtain ⟨g,h1⟩:=gd_t h1
   refine zj 12 rfl rfl rfl ⟨tv,tv,g⟩ ?_
   refine zj 13 rfl rfl rfl ⟨tv,tv,tv⟩ ?_
   obtain ⟨r36,hr,h1⟩:=bnd h1
   refine AJR_call 14 rfl (Nat.le_of_ble_eq_true rfl) [] rfl (check_kind_next.ok0 hr) check_kind_next.fnb rfl ⟨tv,⟨tv,⟨tv,⟨tv,tv⟩⟩⟩⟩ rfl tv rfl ?_
   refine zj 15 rfl rfl rfl tv ?_
   refine AJR_end rfl rfl rfl ?_
   refine tbn ?_
   refine zt ?_
   refine zv 2 rfl ⟨⟨tv,tv,tv⟩,tv,tv⟩ ?_
   refine zm ?_
   exact TE_nextr [(11000,11000)] n (zs n) (_,_) h1 ⟨rfl,rfl,rfl,rfl,rfl,tv⟩ ⟨rfl,tv⟩ rfl
  ·replace h1:=bif_f h1 hb
   refine TC_exit ?_
   refine tsx ?_
   refine tsx ?_
   refine tbe ?_
   obtain rfl:=sinj h1
   refine tsn ?_
   exact SP_ren [] _ rfl ⟨rfl,tv⟩ tv rfl
 ·rintro x18 hz
  obtain rfl:=hz.symm
  refine zg ?_
  refine zv 2 rfl ⟨tv,tv,tv⟩ ?_
  refine ze ?_
  refine TC_ret ?_
  obtain rfl:=sinj h0
  exact TE_ret env rfl tv tv
theorem check_kind_sum.ok0 {K : Nat} {p0 p1 p2 : Int} {p3 : List Int} {p4 q0 : Int} (h0 : check_kind_sum K p0 p1 p2 p3 p4 = some q0) : Fn Tryz.prog 160 [.agg [.int .i64 p0,.int .u32 p1,.int .u32 p2],.im (.slice (.int .u8)) p3,.int .i64 p4] [] (.int .u32 q0) []:=check_kind_sum.ok h0
theorem check_kind_sum.fnb : fnb Tryz.prog 160 = true:=fnb_of Tryz.func160 rfl
def check_Bits.res (_p0 : Int) (_p1 : List Int) (_p2 : Int) : Int × Int → MV
 | (q0,q1)=>.tup [.int .u32 q0,.int .i64 q1]
def check_Bits.out (_p0 : Int) (_p1 : List Int) (_p2 : Int) : Int × Int → List (Nat × Option MObj)
 | (_,_)=>[]
theorem check_Bits.ok {K : Nat} {p0 : Int} {p1 : List Int} {p2 : Int} {r : Int × Int} (h0 : check_Bits K p0 p1 p2 = some r) : Fn Tryz.prog 107 [.int .i64 p0,.im (.slice (.int .u8)) p1,.int .i64 p2] [] (check_Bits.res p0 p1 p2 r) (check_Bits.out p0 p1 p2 r):=by
 refine Fn_of Tryz.func107 rfl (Nat.le_of_ble_eq_true rfl) fun Γ=>?_
 refine zr ?_
 refine zv 2 rfl ⟨tv,tv,tv⟩ ?_
 refine zn ?_
 refine zv 1 rfl ⟨tv,tv⟩ ?_
 obtain ⟨⟨r6,r7,r8,r9⟩,hr,h0⟩:=bnd h0
 refine TL_callB [] (check_of.ok0 hr) check_of.fnb rfl ⟨tv,⟨tv,tv⟩⟩ rfl tv rfl ?_
 refine zv 6 rfl ⟨tv,tv,tv,tv,⟨tv,tv⟩,tv,tv⟩ ?_
 refine ze ?_
 refine TC_seq ?_
 refine zr ?_
 refine zv 13 rfl ⟨tv,⟨tv,tv,tv⟩,tv,fun eg=>tv,fun eg=>⟨fun e=>e,tv,tv⟩,⟨tv,tv,fun e=>e⟩,tv,fun eg=>tv,fun eg=>tv,fun eg=>⟨fun e=>e,tv⟩,fun eg=>⟨tv,fun e=>e,tv⟩,fun eg=>⟨fun e=>e,fun e=>e,tv⟩,⟨tv,tv,fun e=>e⟩,tv⟩ ?_
 refine ze ?_
 refine TC_cond rfl (fun hb=>?_) (fun hb=>?_)
 ·replace h0:=bif_t h0 hb
  refine zr ?_
  refine zv 2 rfl ⟨tv,tv,tv⟩ ?_
  refine ze ?_
  refine TC_ret ?_
  refine tsr ?_
  obtain rfl:=sinj h0
  exact TE_ret env rfl tv tv
 ·replace h0:=bif_f h0 hb
  refine TC_skip ?_
  refine zg ?_
  refine zv 3 rfl ⟨⟨tv,tv⟩,tv,tv,tv⟩ ?_
  obtain ⟨r15,hr,h0⟩:=bnd h0
  refine TL_callB [] (check_kind_sum.ok0 hr) check_kind_sum.fnb rfl ⟨tv,⟨tv,⟨tv,⟨tv,tv⟩⟩⟩⟩ rfl tv rfl ?_
  refine zv 2 rfl ⟨tv,tv,tv⟩ ?_
  refine ze ?_
  refine TC_ret ?_
  obtain rfl:=sinj h0
  exact TE_ret env rfl tv tv
theorem check_Bits.ok0 {K : Nat} {p0 : Int} {p1 : List Int} {p2 q0 q1 : Int} (h0 : check_Bits K p0 p1 p2 = some (q0,q1)) : Fn Tryz.prog 107 [.int .i64 p0,.im (.slice (.int .u8)) p1,.int .i64 p2] [] (.tup [.int .u32 q0,.int .i64 q1]) []:=check_Bits.ok h0
theorem check_Bits.fnb : fnb Tryz.prog 107 = true:=fnb_of Tryz.func107 rfl
def bits_ends_left.res (_p0 _p1 _p2 : Int) (_p3 : List Int) : Int → MV
 | q0=>.int .i64 q0
def bits_ends_left.out (_p0 p1 p2 : Int) (p3 : List Int) : Int → List (Nat × Option MObj)
 | _=>[(0,some (.cells [.int .i64 p1,.int .i64 p2,.sl 1])),(1,some (.rows (.int .u8) p3))]
theorem bits_ends_left.ok {K : Nat} {p0 p1 p2 : Int} {p3 : List Int} {r : Int} (h0 : bits_ends_left K p0 p1 p2 p3 = some r) : Fn Tryz.prog 161 [.p 0 0,.int .i64 p0] [(0,some (.cells [.int .i64 p1,.int .i64 p2,.sl 1])),(1,some (.rows (.int .u8) p3))] (bits_ends_left.res p0 p1 p2 p3 r) (bits_ends_left.out p0 p1 p2 p3 r):=by
 refine Fn_of Tryz.func161 rfl (Nat.le_of_ble_eq_true rfl) fun Γ=>?_
 refine zr ?_
 refine zv 1 rfl ⟨tv,tv⟩ ?_
 refine ze ?_
 refine TC_seq ?_
 refine TC_renw (A':=[(0,.p 0 0),(1,.int .i64 _),(4,.int .i64 0)]) (L':=[(0,some (.cells [.int .i64 _,.int .i64 _,.sl 1])),(1,some (.rows (.int .u8) _))]) [] ⟨rfl,rfl,rfl,tv⟩ ⟨rfl,rfl,tv⟩ rfl ?_
 refine zd [[],[0],[],[2],[3,2],[4,3,2],[5,4,3,2,1,0],[],[7],[8,7],[9,8,7],[10,9,8,7,6,5,4,3,2,1,0],[11,10,9,8,7,6,5,4,3,2,1,0]] [[],[],[],[],[],[],[],[],[],[],[],[],[]] [[],[],[],[],[],[],[],[],[],[],[],[],[]] [[],[],[],[],[],[],[],[],[],[],[],[],[]] (by kernel_rfl) (by kernel_rfl) ?_
 refine zj 1 rfl rfl rfl tv ?_
 refine zj 2 rfl rfl rfl ⟨tv,tv,tv⟩ ?_
 refine zj 3 rfl rfl rfl tv ?_
 refine zj 4 rfl rfl rfl tv ?_
 refine zj 5 rfl rfl rfl tv ?_
 refine zj 6 rfl rfl rfl ⟨tv,tv⟩ ?_
 refine zj 7 rfl rfl rfl ⟨tv,tv,tv⟩ ?_
 refine zj 8 rfl rfl rfl tv ?_
 refine zj 9 rfl rfl rfl tv ?_
 refine zj 10 rfl rfl rfl tv ?_
 refine zj 11 rfl rfl rfl ⟨tv,tv⟩ ?_
 refine zj 12 rfl rfl rfl ⟨tv,tv,tv⟩ ?_
 refine zj 13 rfl rfl rfl tv ?_
 refine AJR_end rfl rfl rfl ?_
 refine zu ?_
 obtain rfl:=sinj h0
 exact TE_ret env rfl tv ⟨.inr rfl,.inr rfl,tv⟩
theorem bits_ends_left.ok0 {K : Nat} {p0 p1 p2 : Int} {p3 : List Int} {q0 : Int} (h0 : bits_ends_left K p0 p1 p2 p3 = some q0) : Fn Tryz.prog 161 [.p 0 0,.int .i64 p0] [(0,some (.cells [.int .i64 p1,.int .i64 p2,.sl 1])),(1,some (.rows (.int .u8) p3))] (.int .i64 q0) [(0,some (.cells [.int .i64 p1,.int .i64 p2,.sl 1])),(1,some (.rows (.int .u8) p3))]:=bits_ends_left.ok h0
theorem bits_ends_left.fnb : fnb Tryz.prog 161 = true:=fnb_of Tryz.func161 rfl
def bits_ends_may.res (_p0 _p1 _p2 _p3 : Int) (_p4 : List Int) : Int → MV
 | q0=>.int .i64 q0
def bits_ends_may.out (_p0 _p1 p2 p3 : Int) (p4 : List Int) : Int → List (Nat × Option MObj)
 | _=>[(0,some (.cells [.int .i64 p2,.int .i64 p3,.sl 1])),(1,some (.rows (.int .u8) p4))]
theorem bits_ends_may.ok {K : Nat} {p0 p1 p2 p3 : Int} {p4 : List Int} {r : Int} (h0 : bits_ends_may K p0 p1 p2 p3 p4 = some r) : Fn Tryz.prog 109 [.p 0 0,.int .i64 p0,.int .i64 p1] [(0,some (.cells [.int .i64 p2,.int .i64 p3,.sl 1])),(1,some (.rows (.int .u8) p4))] (bits_ends_may.res p0 p1 p2 p3 p4 r) (bits_ends_may.out p0 p1 p2 p3 p4 r):=by
 refine Fn_of Tryz.func109 rfl (Nat.le_of_ble_eq_true rfl) fun Γ=>?_
 unfold bits_ends_may at h0
 refine zr ?_
 refine zv 1 rfl ⟨tv,tv⟩ ?_
 refine ze ?_
 refine TC_seq ?_
 refine TC_blk ?_
 refine zr ?_
 refine zv 7 rfl ⟨tv,⟨tv,tv,tv⟩,tv,fun eg=>tv,fun eg=>⟨fun e=>e,tv,tv⟩,⟨tv,tv,fun e=>e⟩,tv,tv⟩ ?_
 refine ze ?_
 refine TC_cond rfl (fun hb=>?_) (fun hb=>?_)
 ·replace h0:=bif_t h0 hb
  refine zr ?_
  refine zv 1 rfl ⟨tv,tv⟩ ?_
  refine ze ?_
  refine TC_ret ?_
  refine tbr ?_
  refine tsr ?_
  obtain rfl:=sinj h0
  exact TE_ret env rfl tv ⟨.inr rfl,.inr rfl,tv⟩
 ·replace h0:=bif_f h0 hb
  refine zr ?_
  refine zv 3 rfl ⟨tv,tv,tv,tv⟩ ?_
  obtain ⟨r9,hr,h0⟩:=bnd h0
  refine TL_callB [(0,0),(1,1)] (bits_ends_left.ok0 hr) bits_ends_left.fnb rfl ⟨tv,⟨tv,⟨tv,tv⟩⟩⟩ rfl ⟨.inr rfl,.inr rfl,tv⟩ rfl ?_
  refine zv 2 rfl ⟨⟨tv,tv,tv⟩,tv,tv⟩ ?_
  refine ze ?_
  refine TC_cond rfl (fun hb=>?_) (fun hb=>?_)
  ·replace h0:=bif_t h0 hb
   refine zr ?_
   refine zv 1 rfl ⟨tv,tv⟩ ?_
   refine ze ?_
   refine TC_ret ?_
   refine tbr ?_
   refine tsr ?_
   obtain rfl:=sinj h0
   exact TE_ret env rfl tv ⟨.inr rfl,.inr rfl,tv⟩
  ·replace h0:=bif_f h0 hb
   refine TC_skip ?_
   refine tbn ?_
   refine zg ?_
   refine zv 1 rfl ⟨tv,tv⟩ ?_
   refine ze ?_
   refine TC_ret ?_
   obtain rfl:=sinj h0
   exact TE_ret env rfl tv ⟨.inr rfl,.inr rfl,tv⟩
theorem bits_ends_may.ok0 {K : Nat} {p0 p1 p2 p3 : Int} {p4 : List Int} {q0 : Int} (h0 : bits_ends_may K p0 p1 p2 p3 p4 = some q0) : Fn Tryz.prog 109 [.p 0 0,.int .i64 p0,.int .i64 p1] [(0,some (.cells [.int .i64 p2,.int .i64 p3,.sl 1])),(1,some (.rows (.int .u8) p4))] (.int .i64 q0) [(0,some (.cells [.int .i64 p2,.int .i64 p3,.sl 1])),(1,some (.rows (.int .u8) p4))]:=bits_ends_may.ok h0
theorem bits_ends_may.fnb : fnb Tryz.prog 109 = true:=fnb_of Tryz.func109 rfl
def bits_Pad_write_2.res (_p0 _p1 _p2 _p3 : Int) (_p4 : List Int) : Int → MV
 | q0=>.int .i64 q0
def bits_Pad_write_2.out (_p0 _p1 p2 p3 : Int) (p4 : List Int) : Int → List (Nat × Option MObj)
 | _=>[(0,some (.cells [.int .i64 p2,.int .i64 p3,.sl 1])),(1,some (.rows (.int .u8) p4))]
theorem bits_Pad_write_2.ok {K : Nat} {p0 p1 p2 p3 : Int} {p4 : List Int} {r : Int} (h0 : bits_Pad_write_2 K p0 p1 p2 p3 p4 = some r) : Fn Tryz.prog 158 [.p 0 0,.int .u32 p0,.int .i64 p1] [(0,some (.cells [.int .i64 p2,.int .i64 p3,.sl 1])),(1,some (.rows (.int .u8) p4))] (bits_Pad_write_2.res p0 p1 p2 p3 p4 r) (bits_Pad_write_2.out p0 p1 p2 p3 p4 r):=by
 refine Fn_of Tryz.func158 rfl (Nat.le_of_ble_eq_true rfl) fun Γ=>?_
 refine zr ?_
 refine zv 1 rfl ⟨tv,tv⟩ ?_
 refine ze ?_
 refine TC_seq ?_
 refine zr ?_
 refine zv 2 rfl ⟨tv,⟨tv,tv,tv⟩,tv⟩ ?_
 refine ze ?_
 refine TC_cond rfl (fun hb=>?_) (fun hb=>?_)
 ·first | exact (ftf hb).elim | exact (tff hb).elim | exact absurd hb (by decide)
 ·refine TC_skip ?_
  refine TE_go ?_
  refine TC_seq ?_
  refine zr ?_
  obtain ⟨g,h0⟩:=gd_t h0
  refine zv 12 rfl ⟨tv,⟨tv,tv,tv⟩,tv,fun eg=>tv,fun eg=>⟨fun e=>e,tv,tv⟩,⟨tv,fun e=>e,tv⟩,tv,fun eg=>tv,fun eg=>tv,fun eg=>⟨fun e=>e,fun e=>e,(g eg)⟩,fun eg=>⟨fun e=>e,tv,tv⟩,⟨tv,fun e=>e,tv⟩,tv⟩ ?_
  refine ze ?_
  refine TC_cond rfl (fun hb=>?_) (fun hb=>?_)
  ·replace h0:=bif_t h0 hb
   refine zr ?_
   refine zv 1 rfl ⟨tv,tv⟩ ?_
   refine ze ?_
   refine TC_ret ?_
   refine tsr ?_
   obtain rfl:=sinj h0
   exact TE_ret env rfl tv ⟨.inr rfl,.inr rfl,tv⟩
  ·replace h0:=bif_f h0 hb
   refine TC_skip ?_
   refine TE_go ?_
   refine TC_seq ?_
   refine TC_renw (A':=[(0,.p 0 0),(2,.int .i64 _),(6,.int .i64 0)]) (L':=[(0,some (.cells [.int .i64 _,.int .i64 _,.sl 1])),(1,some (.rows (.int .u8) _))]) [] ⟨rfl,rfl,rfl,tv⟩ ⟨rfl,rfl,tv⟩ rfl ?_
   refine zd [[],[0],[1,0],[],[],[4],[5,4],[6,5,4],[7,6,5,4],[8,7,6,5,4,3,2,1,0],[9,8,7,6,5,4,3,2,1,0]] [[],[],[],[],[],[],[],[],[],[0,1],[]] [[],[],[],[],[],[],[],[],[],[],[]] [[],[],[],[],[],[],[],[],[],[],[]] (by kernel_rfl) (by kernel_rfl) ?_
   refine zj 1 rfl rfl rfl tv ?_
   refine zj 2 rfl rfl rfl tv ?_
   refine zj 3 rfl rfl rfl tv ?_
   refine zj 4 rfl rfl rfl tv ?_
   refine zj 5 rfl rfl rfl tv ?_
   refine zj 6 rfl rfl rfl tv ?_
   refine zj 7 rfl rfl rfl tv ?_
   refine zj 8 rfl rfl rfl ⟨tv,tv⟩ ?_
   refine zj 9 rfl rfl rfl ⟨tv,tv⟩ ?_
   obtain ⟨r7,hr,h0⟩:=bnd h0
   refine AJR_call 10 rfl (Nat.le_of_ble_eq_true rfl) [(0,0),(1,1)] rfl (bits_ends_may.ok0 hr) bits_ends_may.fnb rfl ⟨tv,⟨tv,⟨tv,⟨tv,tv⟩⟩⟩⟩ rfl ⟨.inr rfl,.inr rfl,tv⟩ rfl ?_
   refine zj 11 rfl rfl rfl tv ?_
   refine AJR_end rfl rfl rfl ?_
   refine zu ?_
   obtain rfl:=sinj h0
   exact TE_ret env rfl tv ⟨.inr rfl,.inr rfl,tv⟩
theorem bits_Pad_write_2.ok0 {K : Nat} {p0 p1 p2 p3 : Int} {p4 : List Int} {q0 : Int} (h0 : bits_Pad_write_2 K p0 p1 p2 p3 p4 = some q0) : Fn Tryz.prog 158 [.p 0 0,.int .u32 p0,.int .i64 p1] [(0,some (.cells [.int .i64 p2,.int .i64 p3,.sl 1])),(1,some (.rows (.int .u8) p4))] (.int .i64 q0) [(0,some (.cells [.int .i64 p2,.int .i64 p3,.sl 1])),(1,some (.rows (.int .u8) p4))]:=bits_Pad_write_2.ok h0
theorem bits_Pad_write_2.fnb : fnb Tryz.prog 158 = true:=fnb_of Tryz.func158 rfl
def bits_ends_ahead.res (_p0 _p1 : Int) (_p2 : List Int) : Int × Int × Int → MV
 | (q0,q1,_)=>.tup [.int .i64 q0,.int .u8 q1]
def bits_ends_ahead.out (_p0 p1 : Int) (p2 : List Int) : Int × Int × Int → List (Nat × Option MObj)
 | (_,_,q2)=>[(0,some (.cells [.int .i64 q2,.int .i64 p1,.sl 1])),(1,some (.rows (.int .u8) p2))]
theorem bits_ends_ahead.ok {K : Nat} {p0 p1 : Int} {p2 : List Int} {r : Int × Int × Int} (h0 : bits_ends_ahead K p0 p1 p2 = some r) : Fn Tryz.prog 111 [.p 0 0] [(0,some (.cells [.int .i64 p0,.int .i64 p1,.sl 1])),(1,some (.rows (.int .u8) p2))] (bits_ends_ahead.res p0 p1 p2 r) (bits_ends_ahead.out p0 p1 p2 r):=by
 refine Fn_of Tryz.func111 rfl (Nat.le_of_ble_eq_true rfl) fun Γ=>?_
 refine zr ?_
 refine zv 2 rfl ⟨tv,tv,tv⟩ ?_
 refine zn ?_
 refine zv 5 rfl ⟨tv,tv,tv,⟨tv,tv⟩,tv,tv⟩ ?_
 refine zn ?_
 refine zv 8 rfl ⟨tv,tv,tv,⟨tv,tv⟩,⟨tv,tv,tv⟩,tv,tv,⟨tv,tv⟩,tv⟩ ?_
 refine ze ?_
 refine TC_seq ?_
 refine TC_renw (A':=[(3,.int .u8 0),(4,.int .i64 _)]) (L':=[(0,some (.cells [.int .i64 _,.int .i64 _,.sl 1])),(1,some (.rows (.int .u8) _))]) [] ⟨rfl,rfl,tv⟩ ⟨rfl,rfl,tv⟩ rfl ?_
 refine zd [[],[0],[],[2],[3,2],[1,0],[5,4,3,2,1,0]] [[],[],[],[],[],[],[]] [[],[],[],[],[],[],[]] [[],[],[],[],[],[],[]] (by kernel_rfl) (by kernel_rfl) ?_
 refine zj 1 rfl rfl rfl tv ?_
 refine zj 2 rfl rfl rfl ⟨tv,tv,(by decide)⟩ ?_
 refine zj 3 rfl rfl rfl tv ?_
 refine zj 4 rfl rfl rfl ⟨tv,tv,(by decide)⟩ ?_
 obtain ⟨g,h0⟩:=gd_t h0
 refine zj 5 rfl rfl rfl ⟨tv,tv,g⟩ ?_
 refine zj 6 rfl rfl rfl tv ?_
 refine zj 7 rfl rfl rfl tv ?_
 refine AJR_end rfl rfl rfl ?_
 refine zu ?_
 obtain rfl:=sinj h0
 exact TE_ret env rfl tv ⟨.inr rfl,.inr rfl,tv⟩
theorem bits_ends_ahead.ok0 {K : Nat} {p0 p1 : Int} {p2 : List Int} {q0 q1 q2 : Int} (h0 : bits_ends_ahead K p0 p1 p2 = some (q0,q1,q2)) : Fn Tryz.prog 111 [.p 0 0] [(0,some (.cells [.int .i64 p0,.int .i64 p1,.sl 1])),(1,some (.rows (.int .u8) p2))] (.tup [.int .i64 q0,.int .u8 q1]) [(0,some (.cells [.int .i64 q2,.int .i64 p1,.sl 1])),(1,some (.rows (.int .u8) p2))]:=bits_ends_ahead.ok h0
theorem bits_ends_ahead.fnb : fnb Tryz.prog 111 = true:=fnb_of Tryz.func111 rfl
def bits_Pad_Front_2.res (_p0 _p1 _p2 _p3 : Int) (_p4 : List Int) : Int × Int × (List Int) → MV
 | (q0,_,_)=>.int .i64 q0
def bits_Pad_Front_2.out (_p0 _p1 _p2 p3 : Int) (_p4 : List Int) : Int × Int × (List Int) → List (Nat × Option MObj)
 | (_,q1,q2)=>[(0,some (.cells [.int .i64 q1,.int .i64 p3,.sl 1])),(1,some (.rows (.int .u8) q2))]
theorem bits_Pad_Front_2.ok {K : Nat} {p0 p1 p2 p3 : Int} {p4 : List Int} {r : Int × Int × (List Int)} (h0 : bits_Pad_Front_2 K p0 p1 p2 p3 p4 = some r) : Fn Tryz.prog 106 [.p 0 0,.int .u32 p0,.int .i64 p1] [(0,some (.cells [.int .i64 p2,.int .i64 p3,.sl 1])),(1,some (.rows (.int .u8) p4))] (bits_Pad_Front_2.res p0 p1 p2 p3 p4 r) (bits_Pad_Front_2.out p0 p1 p2 p3 p4 r):=by
 refine Fn_of Tryz.func106 rfl (Nat.le_of_ble_eq_true rfl) fun Γ=>?_
 refine zr ?_
 refine zv 1 rfl ⟨tv,tv⟩ ?_
 refine ze ?_
 refine TC_seq ?_
 refine zr ?_
 refine zv 3 rfl ⟨tv,tv,tv,tv⟩ ?_
 obtain ⟨r20,hr,h0⟩:=bnd h0
 refine TL_callB [(0,0),(1,1)] (bits_Pad_write_2.ok0 hr) bits_Pad_write_2.fnb rfl ⟨tv,⟨tv,⟨tv,⟨tv,tv⟩⟩⟩⟩ rfl ⟨.inr rfl,.inr rfl,tv⟩ rfl ?_
 refine zv 1 rfl ⟨tv,tv⟩ ?_
 refine zn ?_
 refine zv 2 rfl ⟨tv,⟨tv,tv,tv⟩,tv⟩ ?_
 refine ze ?_
 refine TC_cond rfl (fun hb=>?_) (fun hb=>?_)
 ·replace h0:=bif_t h0 hb
  refine zr ?_
  refine zv 2 rfl ⟨tv,tv,tv⟩ ?_
  refine ze ?_
  refine TC_ret ?_
  refine tsr ?_
  obtain rfl:=sinj h0
  exact TE_ret env rfl tv ⟨.inr rfl,.inr rfl,tv⟩
 ·replace h0:=bif_f h0 hb
  refine TC_skip ?_
  refine TE_go ?_
  refine TC_seq ?_
  refine zr ?_
  refine zv 3 rfl ⟨tv,⟨tv,tv,tv⟩,tv,tv⟩ ?_
  refine ze ?_
  obtain ⟨z1,h1,h0⟩:=bnd h0
  refine TC_cut (α:=Int × (List Int)) (fun s=>z1 = s) (fun s=>[]) (fun s=>[(0,some (.cells [.int .i64 s.1,.int .i64 p3,.sl 1])),(1,some (.rows (.int .u8) s.2))]) ?_ ?_
  ·refine TC_blk ?_
   refine TC_loop (α:=Int × Int × (List Int)) (fun n s=>bits_Pad_Front_2.l0 K p0 p3 n s.1 s.2.1 s.2.2 = some z1) (fun s=>[(0,.p 0 0),(1,.int .u32 p0),(2,.int .i64 s.1)]) (fun s=>[(0,some (.cells [.int .i64 s.2.1,.int .i64 p3,.sl 1])),(1,some (.rows (.int .u8) s.2.2))]) K ?_ ?_
   ·exact SP_ren [] (_,_,_) h1 ⟨rfl,rfl,rfl,tv⟩ ⟨rfl,rfl,tv⟩ rfl
   rintro n ⟨x45,x46,x47⟩ h1
   rcases n with _ | n
   ·exact (nsome h1).elim
   replace h1 : bits_Pad_Front_2.r0 K p0 p3 (bits_Pad_Front_2.l0 K p0 p3 n) x45 x46 x47 = some z1:=h1
   refine TC_seq ?_
   refine zr ?_
   refine zv 2 rfl ⟨tv,⟨tv,tv,tv⟩,tv⟩ ?_
   refine ze ?_
   refine TC_cond rfl (fun hb=>?_) (fun hb=>?_)
   ·replace h1:=bif_t h1 hb
    refine TC_skip ?_
    refine TE_go ?_
    refine TC_seq ?_
    obtain ⟨z2,h2,h1⟩:=bnd h1
    refine TC_cut (α:=Int × (List Int)) (fun s=>z2 = s) (fun s=>[(0,.p 0 0),(1,.int .u32 p0),(2,.int .i64 x45)]) (fun s=>[(0,some (.cells [.int .i64 s.1,.int .i64 p3,.sl 1])),(1,some (.rows (.int .u8) s.2))]) ?_ ?_
    ·refine TC_blk ?_
     refine zr ?_
     refine zv 3 rfl ⟨tv,tv,tv,tv⟩ ?_
     obtain ⟨⟨r63,r64,r65⟩,hr,h2⟩:=bnd h2
     refine TL_callB [(0,0),(1,1)] (bits_ends_ahead.ok0 hr) bits_ends_ahead.fnb rfl ⟨tv,⟨tv,tv⟩⟩ rfl ⟨.inr rfl,.inr rfl,tv⟩ rfl ?_
     refine zv 5 rfl ⟨tv,tv,tv,tv,tv,tv⟩ ?_
     refine zn ?_
     obtain ⟨g,h2⟩:=gd_t h2
     refine zv 5 rfl ⟨tv,tv,⟨tv,tv,g⟩,⟨tv,tv,tv⟩,⟨tv,tv,tv⟩,tv⟩ ?_
     refine ze ?_
     refine TC_cond rfl (fun hb=>?_) (fun hb=>?_)
     ·replace h2:=bif_t h2 hb
      refine TC_reg ?_
      obtain ⟨g,h2⟩:=gd_t h2
      refine zv 11 rfl ⟨tv,tv,tv,⟨tv,tv⟩,tv,⟨tv,tv,g.1,g.2.1⟩,⟨tv,g.2.2.1⟩,tv,⟨tv,tv,tv⟩,⟨tv,tv,g.2.2.2.1,g.2.2.2.2.1⟩,⟨tv,tv,g.2.2.2.2.2⟩,tv⟩ ?_
      refine TL_end ?_
      refine tbn ?_
      obtain rfl:=sinj h2
      refine tsn ?_
      exact SP_ren [] (_,_) rfl ⟨rfl,rfl,rfl,tv⟩ ⟨rfl,rfl,tv⟩ rfl
     ·replace h2:=bif_f h2 hb
      refine TC_skip ?_
      refine tbn ?_
      obtain rfl:=sinj h2
      refine tsn ?_
      exact SP_ren [] (_,_) rfl ⟨rfl,rfl,rfl,tv⟩ ⟨rfl,rfl,tv⟩ rfl
    ·rintro ⟨x60,x61⟩ rfl
     refine zt ?_
     refine zv 3 rfl ⟨tv,⟨tv,tv,tv⟩,tv,tv⟩ ?_
     refine zm ?_
     exact TE_nextr [] n (zs n) (_,_,_) h1 ⟨rfl,rfl,rfl,tv⟩ ⟨rfl,rfl,tv⟩ rfl
   ·replace h1:=bif_f h1 hb
    refine TC_exit ?_
    refine tsx ?_
    refine tsx ?_
    refine tbe ?_
    obtain rfl:=sinj h1
    refine tsn ?_
    exact SP_ren [] (_,_) rfl tv ⟨rfl,rfl,tv⟩ rfl
  ·rintro ⟨x38,x39⟩ rfl
   refine zg ?_
   refine zv 1 rfl ⟨tv,tv⟩ ?_
   refine ze ?_
   refine TC_ret ?_
   obtain rfl:=sinj h0
   exact TE_ret env rfl tv ⟨.inr rfl,.inr rfl,tv⟩
theorem bits_Pad_Front_2.ok0 {K : Nat} {p0 p1 p2 p3 : Int} {p4 : List Int} {q0 q1 : Int} {q2 : List Int} (h0 : bits_Pad_Front_2 K p0 p1 p2 p3 p4 = some (q0,q1,q2)) : Fn Tryz.prog 106 [.p 0 0,.int .u32 p0,.int .i64 p1] [(0,some (.cells [.int .i64 p2,.int .i64 p3,.sl 1])),(1,some (.rows (.int .u8) p4))] (.int .i64 q0) [(0,some (.cells [.int .i64 q1,.int .i64 p3,.sl 1])),(1,some (.rows (.int .u8) q2))]:=bits_Pad_Front_2.ok h0
theorem bits_Pad_Front_2.fnb : fnb Tryz.prog 106 = true:=fnb_of Tryz.func106 rfl
def subband_put_2.res (_p0 : List ((Int × Int))) (_p1 _p2 : Int) (_p3 : List Int) : Int × Int × (List Int) → MV
 | (q0,_,_)=>.int .i64 q0
def subband_put_2.out (_p0 : List ((Int × Int))) (_p1 p2 : Int) (_p3 : List Int) : Int × Int × (List Int) → List (Nat × Option MObj)
 | (_,q1,q2)=>[(0,some (.cells [.int .i64 q1,.int .i64 p2,.sl 1])),(1,some (.rows (.int .u8) q2))]
theorem subband_put_2.ok {K : Nat} {p0 : List ((Int × Int))} {p1 p2 : Int} {p3 : List Int} {r : Int × Int × (List Int)} (h0 : subband_put_2 K p0 p1 p2 p3 = some r) : Fn Tryz.prog 45 [.p 0 0,.im (.slice (.pair (.int .i64) (.int .i64))) p0] [(0,some (.cells [.int .i64 p1,.int .i64 p2,.sl 1])),(1,some (.rows (.int .u8) p3))] (subband_put_2.res p0 p1 p2 p3 r) (subband_put_2.out p0 p1 p2 p3 r):=by
 refine Fn_of Tryz.func45 rfl (Nat.le_of_ble_eq_true rfl) fun Γ=>?_
 refine zr ?_
 refine zv 1 rfl ⟨tv,tv⟩ ?_
 refine zn ?_
 refine zv 1 rfl ⟨tv,tv⟩ ?_
 refine ze ?_
 refine TC_seq ?_
 refine zr ?_
 refine zv 3 rfl ⟨tv,⟨tv,tv⟩,tv,tv⟩ ?_
 refine ze ?_
 obtain ⟨z1,h1,h0⟩:=bnd h0
 refine TC_cut (α:=Int × Int × (List Int)) (fun s=>z1 = s) (fun s=>[(5,.int .i64 s.1)]) (fun s=>[(0,some (.cells [.int .i64 s.2.1,.int .i64 p2,.sl 1])),(1,some (.rows (.int .u8) s.2.2))]) ?_ ?_
 ·refine TC_blk ?_
  refine TC_loop (α:=Int × Int × Int × (List Int)) (fun n s=>subband_put_2.l0 K p0 (p0.length : Int) p2 n s.1 s.2.1 s.2.2.1 s.2.2.2 = some z1) (fun s=>[(0,.p 0 0),(5,.int .i64 s.1),(8,.im (.slice (.pair (.int .i64) (.int .i64))) p0),(9,.int .i64 (p0.length : Int)),(10,.int .i64 s.2.1)]) (fun s=>[(0,some (.cells [.int .i64 s.2.2.1,.int .i64 p2,.sl 1])),(1,some (.rows (.int .u8) s.2.2.2))]) K ?_ ?_
  ·exact SP_ren [] (_,_,_,_) h1 ⟨rfl,rfl,rfl,rfl,rfl,tv⟩ ⟨rfl,rfl,tv⟩ rfl
  rintro n ⟨x53,x54,x55,x56⟩ h1
  rcases n with _ | n
  ·exact (nsome h1).elim
  replace h1 : subband_put_2.r0 K p0 (p0.length : Int) p2 (subband_put_2.l0 K p0 (p0.length : Int) p2 n) x53 x54 x55 x56 = some z1:=h1
  refine zr ?_
  refine zv 1 rfl ⟨⟨tv,tv,tv⟩,tv⟩ ?_
  refine ze ?_
  refine TC_seq ?_
  refine TC_cond rfl (fun hb=>?_) (fun hb=>?_)
  ·replace h1:=bif_t h1 hb
   refine TC_skip ?_
   refine TE_go ?_
   refine TC_seq ?_
   refine TC_blk ?_
   refine zr ?_
   obtain ⟨g,h1⟩:=gd_t h1
   refine zv 4 rfl ⟨⟨tv,tv,g.1,g.2⟩,⟨tv,tv⟩,tv,⟨tv,tv⟩,tv⟩ ?_
   refine zn ?_
   refine zv 6 rfl ⟨tv,⟨tv,tv,(by decide),(by decide)⟩,⟨tv,tv⟩,tv,⟨tv,tv,(by decide),(by decide)⟩,⟨tv,tv⟩,tv⟩ ?_
   obtain ⟨⟨r73,r74,r75⟩,hr,h1⟩:=bnd h1
   refine TL_callB [(0,0),(1,1)] (bits_Pad_Front_2.ok0 hr) bits_Pad_Front_2.fnb rfl ⟨tv,⟨tv,⟨tv,⟨tv,tv⟩⟩⟩⟩ rfl ⟨.inr rfl,.inr rfl,tv⟩ rfl ?_
   refine ze ?_
   refine TC_reg ?_
   refine zv 5 rfl ⟨tv,⟨tv,tv,(by decide),(by decide)⟩,⟨tv,tv⟩,⟨tv,tv,tv⟩,tv,tv⟩ ?_
   refine TL_end ?_
   refine tbn ?_
   refine zt ?_
   refine zv 2 rfl ⟨⟨tv,tv,tv⟩,tv,tv⟩ ?_
   refine zm ?_
   exact TE_nextr [] n (zs n) (_,_,_,_) h1 ⟨rfl,rfl,rfl,rfl,rfl,tv⟩ ⟨rfl,rfl,tv⟩ rfl
  ·replace h1:=bif_f h1 hb
   refine TC_exit ?_
   refine tsx ?_
   refine tsx ?_
   refine tbe ?_
   obtain rfl:=sinj h1
   refine tsn ?_
   exact SP_ren [] (_,_,_) rfl ⟨rfl,tv⟩ ⟨rfl,rfl,tv⟩ rfl
 ·rintro ⟨x44,x45,x46⟩ rfl
  refine zg ?_
  refine zv 2 rfl ⟨tv,tv,tv⟩ ?_
  refine ze ?_
  refine TC_ret ?_
  obtain rfl:=sinj h0
  exact TE_ret env rfl tv ⟨.inr rfl,.inr rfl,tv⟩
theorem subband_put_2.ok0 {K : Nat} {p0 : List ((Int × Int))} {p1 p2 : Int} {p3 : List Int} {q0 q1 : Int} {q2 : List Int} (h0 : subband_put_2 K p0 p1 p2 p3 = some (q0,q1,q2)) : Fn Tryz.prog 45 [.p 0 0,.im (.slice (.pair (.int .i64) (.int .i64))) p0] [(0,some (.cells [.int .i64 p1,.int .i64 p2,.sl 1])),(1,some (.rows (.int .u8) p3))] (.int .i64 q0) [(0,some (.cells [.int .i64 q1,.int .i64 p2,.sl 1])),(1,some (.rows (.int .u8) q2))]:=subband_put_2.ok h0
theorem subband_put_2.fnb : fnb Tryz.prog 45 = true:=fnb_of Tryz.func45 rfl
def bytes_Clone_2.res (_p0 : List Int) : (List Int) → MV
 | q0=>.im (.slice (.int .u8)) q0
def bytes_Clone_2.out (p0 : List Int) : (List Int) → List (Nat × Option MObj)
 | _=>[(0,some (.rows (.int .u8) p0))]
theorem bytes_Clone_2.ok {K : Nat} {p0 : List Int} {r : (List Int)} (h0 : bytes_Clone_2 K p0 = some r) : Fn Tryz.prog 108 [.sl 0] [(0,some (.rows (.int .u8) p0))] (bytes_Clone_2.res p0 r) (bytes_Clone_2.out p0 r):=by
 refine Fn_of Tryz.func108 rfl (Nat.le_of_ble_eq_true rfl) fun Γ=>?_
 refine zr ?_
 refine zv 1 rfl ⟨tv,tv⟩ ?_
 refine ze ?_
 refine TC_seq ?_
 refine zr ?_
 obtain ⟨g,h0⟩:=gd_t h0
 refine zv 2 rfl ⟨tv,⟨tv,tv,g⟩,tv⟩ ?_
 refine ze ?_
 refine TC_cond rfl (fun hb=>?_) (fun hb=>?_)
 ·first | exact (ftf hb).elim | exact (tff hb).elim | exact absurd hb (by decide)
 ·refine TC_skip ?_
  refine zg ?_
  obtain ⟨g,h0⟩:=gd_t h0
  refine zv 4 rfl ⟨tv,tv,⟨⟨tv,tv,tv⟩,g⟩,tv,tv⟩ ?_
  refine ze ?_
  refine TC_ret ?_
  refine TE_frz 1007 rfl ?_
  obtain rfl:=sinj h0
  exact TE_ret env rfl tv ⟨.inr rfl,tv⟩
theorem bytes_Clone_2.ok0 {K : Nat} {p0 q0 : List Int} (h0 : bytes_Clone_2 K p0 = some q0) : Fn Tryz.prog 108 [.sl 0] [(0,some (.rows (.int .u8) p0))] (.im (.slice (.int .u8)) q0) [(0,some (.rows (.int .u8) p0))]:=bytes_Clone_2.ok h0
theorem bytes_Clone_2.fnb : fnb Tryz.prog 108 = true:=fnb_of Tryz.func108 rfl
def bits_Pad_Bytes_2.res (_p0 _p1 : Int) (_p2 : List Int) : (List Int) → MV
 | q0=>.im (.slice (.int .u8)) q0
def bits_Pad_Bytes_2.out (p0 p1 : Int) (p2 : List Int) : (List Int) → List (Nat × Option MObj)
 | _=>[(0,some (.cells [.int .i64 p0,.int .i64 p1,.sl 1])),(1,some (.rows (.int .u8) p2))]
theorem bits_Pad_Bytes_2.ok {K : Nat} {p0 p1 : Int} {p2 : List Int} {r : (List Int)} (h0 : bits_Pad_Bytes_2 K p0 p1 p2 = some r) : Fn Tryz.prog 50 [.p 0 0] [(0,some (.cells [.int .i64 p0,.int .i64 p1,.sl 1])),(1,some (.rows (.int .u8) p2))] (bits_Pad_Bytes_2.res p0 p1 p2 r) (bits_Pad_Bytes_2.out p0 p1 p2 r):=by
 refine Fn_of Tryz.func50 rfl (Nat.le_of_ble_eq_true rfl) fun Γ=>?_
 refine zr ?_
 refine zv 1 rfl ⟨tv,tv⟩ ?_
 refine ze ?_
 refine TC_seq ?_
 refine zr ?_
 refine zv 2 rfl ⟨tv,⟨tv,tv,tv⟩,tv⟩ ?_
 refine ze ?_
 refine TC_cond rfl (fun hb=>?_) (fun hb=>?_)
 ·first | exact (ftf hb).elim | exact (tff hb).elim | exact absurd hb (by decide)
 ·refine TC_skip ?_
  refine zg ?_
  refine zv 4 rfl ⟨tv,tv,tv,⟨tv,tv⟩,tv⟩ ?_
  obtain ⟨r2,hr,h0⟩:=bnd h0
  refine TL_callB [(0,1)] (bytes_Clone_2.ok0 hr) bytes_Clone_2.fnb rfl ⟨tv,⟨tv,tv⟩⟩ rfl ⟨.inr rfl,tv⟩ rfl ?_
  refine zv 1 rfl ⟨tv,tv⟩ ?_
  refine ze ?_
  refine TC_ret ?_
  obtain rfl:=sinj h0
  exact TE_ret env rfl tv ⟨.inr rfl,.inr rfl,tv⟩
theorem bits_Pad_Bytes_2.ok0 {K : Nat} {p0 p1 : Int} {p2 q0 : List Int} (h0 : bits_Pad_Bytes_2 K p0 p1 p2 = some q0) : Fn Tryz.prog 50 [.p 0 0] [(0,some (.cells [.int .i64 p0,.int .i64 p1,.sl 1])),(1,some (.rows (.int .u8) p2))] (.im (.slice (.int .u8)) q0) [(0,some (.cells [.int .i64 p0,.int .i64 p1,.sl 1])),(1,some (.rows (.int .u8) p2))]:=bits_Pad_Bytes_2.ok h0
theorem bits_Pad_Bytes_2.fnb : fnb Tryz.prog 50 = true:=fnb_of Tryz.func50 rfl
def subband_Params_sum.res (_p0 _p1 _p2 _p3 _p4 _p5 _p6 _p7 _p8 _p9 : Int) (_p10 : List Int) (_p11 : List (List Int)) (_p12 : List (List (List Int))) : Int → MV
 | q0=>.int .i64 q0
def subband_Params_sum.out (_p0 _p1 _p2 _p3 _p4 _p5 _p6 _p7 _p8 _p9 : Int) (p10 : List Int) (p11 : List (List Int)) (p12 : List (List (List Int))) : Int → List (Nat × Option MObj)
 | _=>[(0,some (.cells [.im (.slice (.int .i64)) p10,.im (.slice (.slice (.int .i64))) p11,.im (.slice (.slice (.slice (.int .i64)))) p12]))]
theorem subband_Params_sum.ok {K : Nat} {p0 p1 p2 p3 p4 p5 p6 p7 p8 p9 : Int} {p10 : List Int} {p11 : List (List Int)} {p12 : List (List (List Int))} {r : Int} (h0 : subband_Params_sum K p0 p1 p2 p3 p4 p5 p6 p7 p8 p9 p10 p11 p12 = some r) : Fn Tryz.prog 47 [.p 0 0,.agg [.int .i64 p0,.int .i64 p1,.int .i64 p2,.int .i64 p3,.int .i64 p4,.int .i64 p5,.int .i64 p6,.int .i64 p7,.int .i64 p8,.int .i64 p9]] [(0,some (.cells [.im (.slice (.int .i64)) p10,.im (.slice (.slice (.int .i64))) p11,.im (.slice (.slice (.slice (.int .i64)))) p12]))] (subband_Params_sum.res p0 p1 p2 p3 p4 p5 p6 p7 p8 p9 p10 p11 p12 r) (subband_Params_sum.out p0 p1 p2 p3 p4 p5 p6 p7 p8 p9 p10 p11 p12 r):=by
 refine Fn_of Tryz.func47 rfl (Nat.le_of_ble_eq_true rfl) fun Γ=>?_
 unfold subband_Params_sum at h0
 refine zr ?_
 refine zv 2 rfl ⟨tv,tv,tv⟩ ?_
 refine zn ?_
 obtain ⟨z,hr,h0⟩:=bnd h0
 rcases z with r21 | r22
 ·refine TL_callB [] (bits_New.ok0 hr) bits_New.fnb rfl ⟨tv,⟨tv,tv⟩⟩ rfl tv rfl ?_
  refine zv 5 rfl ⟨tv,tv,tv,tv,tv,tv⟩ ?_
  refine ze ?_
  refine TC_seq ?_
  refine TC_renw (A':=[(0,.p 0 0),(3,.p 1003 0),(5,.nilp)]) (L':=[(0,some (.cells [.im (.slice (.int .i64)) _,.im (.slice (.slice (.int .i64))) _,.im (.slice (.slice (.slice (.int .i64)))) _])),(1003,some (.cells [.int .i64 _,.int .i64 _,.int .i64 _,.int .i64 _,.int .i64 _,.int .i64 _,.int .i64 _,.int .i64 _,.int .i64 _,.int .i64 _]))]) [] ⟨rfl,rfl,rfl,tv⟩ ⟨rfl,rfl,tv⟩ rfl ?_
  refine zd [[],[],[1],[2,1,0],[],[],[],[6,5,3,2,1,0],[7,6,5,4,3,2,1,0],[8,7,6,5,4,3,2,1,0],[9,8,7,6,5,4,3,2,1,0]] [[],[],[],[],[],[],[],[],[],[],[]] [[],[],[],[],[],[],[],[],[],[],[]] [[],[],[],[],[],[],[],[],[],[],[]] (by kernel_rfl) (by kernel_rfl) ?_
  refine zj 1 rfl rfl rfl tv ?_
  refine zj 2 rfl rfl rfl ⟨tv,tv⟩ ?_
  obtain ⟨r23,hr,h0⟩:=bnd h0
  refine AJR_call 3 rfl (Nat.le_of_ble_eq_true rfl) [] rfl (subband_head.ok0 hr) subband_head.fnb rfl ⟨tv,⟨tv,tv⟩⟩ rfl tv rfl ?_
  obtain ⟨r24,hr,h0⟩:=bnd h0
  refine AJR_call 4 rfl (Nat.le_of_ble_eq_true rfl) [] rfl (subband_put.ok0 hr) subband_put.fnb rfl ⟨tv,⟨tv,⟨tv,tv⟩⟩⟩ rfl tv rfl ?_
  refine zj 5 rfl rfl rfl tv ?_
  refine zj 6 rfl rfl rfl tv ?_
  refine zj 7 rfl rfl rfl ⟨tv,tv⟩ ?_
  obtain ⟨r25,hr,h0⟩:=bnd h0
  refine AJR_callS 8 rfl (Nat.le_of_ble_eq_true rfl) [(0,0)] rfl (subband_Params_side.ok0 hr) subband_Params_side.fnb rfl ⟨tv,⟨tv,⟨tv,tv⟩⟩⟩ rfl ⟨.inr rfl,tv⟩ rfl ⟨⟨rfl,rfl⟩,tv⟩ ?_
  obtain ⟨r26,hr,h0⟩:=bnd h0
  refine AJR_call 9 rfl (Nat.le_of_ble_eq_true rfl) [] rfl (subband_put.ok0 hr) subband_put.fnb rfl ⟨tv,⟨tv,⟨tv,tv⟩⟩⟩ rfl tv rfl ?_
  refine zj 10 rfl rfl rfl ⟨tv,tv,tv⟩ ?_
  refine zj 11 rfl rfl rfl tv ?_
  refine AJR_end rfl rfl rfl ?_
  refine zg ?_
  refine zv 1 rfl ⟨tv,tv⟩ ?_
  obtain ⟨r28,hr,h0⟩:=bnd h0
  refine TL_callB [] (bits_Pad_Bytes.ok0 hr) bits_Pad_Bytes.fnb rfl ⟨tv,⟨tv,tv⟩⟩ rfl tv rfl ?_
  refine zv 1 rfl ⟨tv,tv⟩ ?_
  obtain ⟨⟨r29,r30⟩,hr,h0⟩:=bnd h0
  refine TL_callB [] (check_Bits.ok0 hr) check_Bits.fnb rfl ⟨tv,⟨tv,⟨tv,⟨tv,tv⟩⟩⟩⟩ rfl tv rfl ?_
  refine zv 5 rfl ⟨tv,tv,tv,tv,tv,tv⟩ ?_
  refine zn ?_
  refine zv 3 rfl ⟨tv,tv,tv,tv⟩ ?_
  refine ze ?_
  refine TC_ret ?_
  obtain rfl:=sinj h0
  exact TE_ret env rfl tv ⟨.inr rfl,tv⟩
 ·refine TL_callB [(1000,500110),(1001,500111)] (bits_New.ok1 hr) bits_New.fnb rfl ⟨tv,⟨tv,tv⟩⟩ rfl tv rfl ?_
  refine zv 5 rfl ⟨tv,tv,tv,tv,tv,tv⟩ ?_
  refine ze ?_
  refine TC_seq ?_
  refine TC_renw (A':=[(0,.p 0 0),(3,.p 1003 0),(5,.p 500110 0)]) (L':=[(0,some (.cells [.im (.slice (.int .i64)) _,.im (.slice (.slice (.int .i64))) _,.im (.slice (.slice (.slice (.int .i64)))) _])),(1003,some (.cells [.int .i64 _,.int .i64 _,.int .i64 _,.int .i64 _,.int .i64 _,.int .i64 _,.int .i64 _,.int .i64 _,.int .i64 _,.int .i64 _])),(500110,some (.cells [.int .i64 0,.int .i64 0,.sl 500111])),(500111,some (.rows (.int .u8) _))]) [] ⟨rfl,rfl,rfl,tv⟩ ⟨rfl,rfl,rfl,rfl,tv⟩ rfl ?_
  refine zd [[],[],[1],[2,1,0],[],[],[],[6,5,3,2,1,0],[7,6,5,4,3,2,1,0],[8,7,6,5,4,3,2,1,0],[9,8,7,6,5,4,3,2,1,0]] [[],[],[],[500110,500111],[],[],[],[],[500110,500111],[],[]] [[],[],[],[],[],[],[],[],[],[],[]] [[],[],[],[],[500110,500111],[500110,500111],[500110,500111],[],[],[],[]] (by kernel_rfl) (by kernel_rfl) ?_
  refine zj 1 rfl rfl rfl tv ?_
  refine zj 2 rfl rfl rfl ⟨tv,tv⟩ ?_
  obtain ⟨r31,hr,h0⟩:=bnd h0
  refine AJR_call 3 rfl (Nat.le_of_ble_eq_true rfl) [] rfl (subband_head.ok0 hr) subband_head.fnb rfl ⟨tv,⟨tv,tv⟩⟩ rfl tv rfl ?_
  obtain ⟨⟨r32,r33,r34⟩,hr,h0⟩:=bnd h0
  refine AJR_call 4 rfl (Nat.le_of_ble_eq_true rfl) [(0,500110),(1,500111)] rfl (subband_put_2.ok0 hr) subband_put_2.fnb rfl ⟨tv,⟨tv,⟨tv,tv⟩⟩⟩ rfl ⟨.inr rfl,.inr rfl,tv⟩ rfl ?_
  refine zj 5 rfl rfl rfl tv ?_
  refine zj 6 rfl rfl rfl tv ?_
  refine zj 7 rfl rfl rfl ⟨tv,tv⟩ ?_
  obtain ⟨r35,hr,h0⟩:=bnd h0
  refine AJR_callS 8 rfl (Nat.le_of_ble_eq_true rfl) [(0,0)] rfl (subband_Params_side.ok0 hr) subband_Params_side.fnb rfl ⟨tv,⟨tv,⟨tv,tv⟩⟩⟩ rfl ⟨.inr rfl,tv⟩ rfl ⟨⟨rfl,rfl⟩,tv⟩ ?_
  obtain ⟨⟨r36,r37,r38⟩,hr,h0⟩:=bnd h0
  refine AJR_call 9 rfl (Nat.le_of_ble_eq_true rfl) [(0,500110),(1,500111)] rfl (subband_put_2.ok0 hr) subband_put_2.fnb rfl ⟨tv,⟨tv,⟨tv,tv⟩⟩⟩ rfl ⟨.inr rfl,.inr rfl,tv⟩ rfl ?_
  refine zj 10 rfl rfl rfl ⟨tv,tv,tv⟩ ?_
  refine zj 11 rfl rfl rfl tv ?_
  refine AJR_end rfl rfl rfl ?_
  refine zg ?_
  refine zv 1 rfl ⟨tv,tv⟩ ?_
  obtain ⟨r40,hr,h0⟩:=bnd h0
  refine TL_callB [(0,500110),(1,500111)] (bits_Pad_Bytes_2.ok0 hr) bits_Pad_Bytes_2.fnb rfl ⟨tv,⟨tv,tv⟩⟩ rfl ⟨.inr rfl,.inr rfl,tv⟩ rfl ?_
  refine zv 1 rfl ⟨tv,tv⟩ ?_
  obtain ⟨⟨r41,r42⟩,hr,h0⟩:=bnd h0
  refine TL_callB [] (check_Bits.ok0 hr) check_Bits.fnb rfl ⟨tv,⟨tv,⟨tv,⟨tv,tv⟩⟩⟩⟩ rfl tv rfl ?_
  refine zv 5 rfl ⟨tv,tv,tv,tv,tv,tv⟩ ?_
  refine zn ?_
  refine zv 3 rfl ⟨tv,tv,tv,tv⟩ ?_
  refine ze ?_
  refine TC_ret ?_
  obtain rfl:=sinj h0
  exact TE_ret env rfl tv ⟨.inr rfl,tv⟩
theorem subband_Params_sum.ok0 {K : Nat} {p0 p1 p2 p3 p4 p5 p6 p7 p8 p9 : Int} {p10 : List Int} {p11 : List (List Int)} {p12 : List (List (List Int))} {q0 : Int} (h0 : subband_Params_sum K p0 p1 p2 p3 p4 p5 p6 p7 p8 p9 p10 p11 p12 = some q0) : Fn Tryz.prog 47 [.p 0 0,.agg [.int .i64 p0,.int .i64 p1,.int .i64 p2,.int .i64 p3,.int .i64 p4,.int .i64 p5,.int .i64 p6,.int .i64 p7,.int .i64 p8,.int .i64 p9]] [(0,some (.cells [.im (.slice (.int .i64)) p10,.im (.slice (.slice (.int .i64))) p11,.im (.slice (.slice (.slice (.int .i64)))) p12]))] (.int .i64 q0) [(0,some (.cells [.im (.slice (.int .i64)) p10,.im (.slice (.slice (.int .i64))) p11,.im (.slice (.slice (.slice (.int .i64)))) p12]))]:=subband_Params_sum.ok h0
theorem subband_Params_sum.fnb : fnb Tryz.prog 47 = true:=fnb_of Tryz.func47 rfl
end Go.Fo
