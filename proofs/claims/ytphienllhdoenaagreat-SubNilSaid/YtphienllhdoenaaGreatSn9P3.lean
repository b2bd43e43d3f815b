/- Each call comes to the function that is written for it. -/
import Derived.Test.YtphienllhdoenaaGreatSn9T
import Derived.Test.YtphienllhdoenaaGreatSn9F
import Derived.Test.YtphienllhdoenaaGreatBx
import Derived.Test.YtphienllhdoenaaGreatSn9P0
import Derived.Test.YtphienllhdoenaaGreatSn9P1
import Derived.Test.YtphienllhdoenaaGreatSn9P2
namespace Go.Fo
open Go.Proofs
set_option maxRecDepth 20000
set_option maxHeartbeats 4000000
def quant_Joins.res (_p0 _p1 : List (List Int)) : (List (Bool)) × Int → MV
 | (q0,q1)=>.tup [.im (.slice (.bool)) q0,.int .i64 q1]
def quant_Joins.out (_p0 _p1 : List (List Int)) : (List (Bool)) × Int → List (Nat × Option MObj)
 | (_,_)=>[]
theorem quant_Joins.ok {K : Nat} {p0 p1 : List (List Int)} {r : (List (Bool)) × Int} (h0 : quant_Joins K p0 p1 = some r) : Fn Tryz.prog 75 [.im (.slice (.slice (.int .i32))) p0,.im (.slice (.slice (.int .i32))) p1] [] (quant_Joins.res p0 p1 r) (quant_Joins.out p0 p1 r):=by
 refine Fn_of Tryz.func75 rfl (Nat.le_of_ble_eq_true rfl) fun Γ=>?_
 refine zr ?_
 refine zv 2 rfl ⟨tv,tv,tv⟩ ?_
 refine zn ?_
 refine zv 2 rfl ⟨tv,tv,tv⟩ ?_
 obtain ⟨⟨r29,r30,r31⟩,hr,h0⟩:=bnd h0
 refine TL_callB [] (quant_Middle.ok0 hr) quant_Middle.fnb rfl ⟨tv,⟨tv,⟨tv,tv⟩⟩⟩ rfl tv rfl ?_
 refine zv 7 rfl ⟨tv,tv,tv,tv,tv,tv,tv,tv⟩ ?_
 refine ze ?_
 refine TC_seq ?_
 refine zr ?_
 refine zv 2 rfl ⟨tv,⟨tv,tv,tv⟩,tv⟩ ?_
 refine ze ?_
 refine TC_cond rfl (fun hb=>?_) (fun hb=>?_)
 ·replace h0:=bif_t h0 hb
  refine zr ?_
  refine zv 3 rfl ⟨tv,tv,tv,tv⟩ ?_
  refine ze ?_
  refine TC_ret ?_
  refine tsr ?_
  refine TE_imn 4 (.bool) rfl ?_
  obtain rfl:=sinj h0
  exact TE_ret env rfl tv tv
 ·replace h0:=bif_f h0 hb
  refine TC_skip ?_
  refine zg ?_
  refine zv 1 rfl ⟨tv,tv⟩ ?_
  refine ze ?_
  refine TC_seq ?_
  refine zr ?_
  refine zv 6 rfl ⟨tv,tv,tv,tv,⟨tv,tv,tv,tv,tv⟩,tv,tv⟩ ?_
  refine ze ?_
  obtain ⟨z1,h1,h0⟩:=bnd h0
  refine TC_cut (α:=(List Int) × (List Int) × (List Int) × (List Int)) (fun s=>z1 = s) (fun s=>[(9,.p 10600 0)]) (fun s=>[(10600,some (.cells [.im (.slice (.int .i64)) s.1,.im (.slice (.int .i64)) s.2.1,.im (.slice (.int .i64)) s.2.2.1,.im (.slice (.int .i64)) s.2.2.2]))]) ?_ ?_
  ·refine TC_blk ?_
   refine TC_loopU ?_
   refine TE_lb ?_
   refine zr ?_
   refine zv 1 rfl ⟨⟨tv,tv,tv⟩,tv⟩ ?_
   refine ze ?_
   refine TC_seq ?_
   refine TC_cond rfl (fun hb=>?_) (fun hb=>?_)
   ·refine TC_skip ?_
    refine TE_go ?_
    refine TC_seq ?_
    refine TC_blk ?_
    refine zr ?_
    refine zv 4 rfl ⟨tv,⟨tv,tv,(by decide),(by decide)⟩,tv,tv,tv⟩ ?_
    refine ze ?_
    refine TC_reg ?_
    refine zv 2 rfl ⟨tv,tv,tv⟩ ?_
    obtain ⟨⟨r78,r79⟩,hr,h1⟩:=bnd h1
    refine TL_callB [] (quant_Scales.ok0 hr) quant_Scales.fnb rfl ⟨tv,⟨tv,tv⟩⟩ rfl tv rfl ?_
    refine zv 5 rfl ⟨tv,tv,tv,⟨tv,tv,(by decide),(by decide)⟩,⟨tv,tv⟩,tv⟩ ?_
    refine TL_end ?_
    refine tbn ?_
    refine zt ?_
    refine zv 2 rfl ⟨⟨tv,tv,tv⟩,tv,tv⟩ ?_
    refine zm ?_
    refine TE_renw (A':=[(9,.p 1009000 0),(28,.agg [.im (.slice (.slice (.int .i32))) _,.im (.slice (.slice (.int .i32))) _,.im (.slice (.slice (.int .i32))) _,.im (.slice (.slice (.int .i32))) _]),(29,.int .i64 1)]) (L':=[(1009000,some (.cells [.im (.slice (.int .i64)) _,.nils,.nils,.nils]))]) [(1009000,1009)] ⟨rfl,rfl,rfl,tv⟩ ⟨rfl,tv⟩ rfl ?_
    refine TE_lb ?_
    refine zr ?_
    refine zv 1 rfl ⟨⟨tv,tv,tv⟩,tv⟩ ?_
    refine ze ?_
    refine TC_seq ?_
    refine TC_cond rfl (fun hb=>?_) (fun hb=>?_)
    ·refine TC_skip ?_
     refine TE_go ?_
     refine TC_seq ?_
     refine TC_blk ?_
     refine zr ?_
     refine zv 4 rfl ⟨tv,⟨tv,tv,(by decide),(by decide)⟩,tv,tv,tv⟩ ?_
     refine ze ?_
     refine TC_reg ?_
     refine zv 2 rfl ⟨tv,tv,tv⟩ ?_
     obtain ⟨⟨r82,r83⟩,hr,h1⟩:=bnd h1
     refine TL_callB [] (quant_Scales.ok0 hr) quant_Scales.fnb rfl ⟨tv,⟨tv,tv⟩⟩ rfl tv rfl ?_
     refine zv 5 rfl ⟨tv,tv,tv,⟨tv,tv,(by decide),(by decide)⟩,⟨tv,tv⟩,tv⟩ ?_
     refine TL_end ?_
     refine tbn ?_
     refine zt ?_
     refine zv 2 rfl ⟨⟨tv,tv,tv⟩,tv,tv⟩ ?_
     refine zm ?_
     refine TE_renw (A':=[(9,.p 1010000 0),(28,.agg [.im (.slice (.slice (.int .i32))) _,.im (.slice (.slice (.int .i32))) _,.im (.slice (.slice (.int .i32))) _,.im (.slice (.slice (.int .i32))) _]),(29,.int .i64 2)]) (L':=[(1010000,some (.cells [.im (.slice (.int .i64)) _,.im (.slice (.int .i64)) _,.nils,.nils]))]) [(1010000,1009000)] ⟨rfl,rfl,rfl,tv⟩ ⟨rfl,tv⟩ rfl ?_
     refine TE_lb ?_
     refine zr ?_
     refine zv 1 rfl ⟨⟨tv,tv,tv⟩,tv⟩ ?_
     refine ze ?_
     refine TC_seq ?_
     refine TC_cond rfl (fun hb=>?_) (fun hb=>?_)
     ·refine TC_skip ?_
      refine TE_go ?_
      refine TC_seq ?_
      refine TC_blk ?_
      refine zr ?_
      refine zv 4 rfl ⟨tv,⟨tv,tv,(by decide),(by decide)⟩,tv,tv,tv⟩ ?_
      refine ze ?_
      refine TC_reg ?_
      refine zv 2 rfl ⟨tv,tv,tv⟩ ?_
      obtain ⟨⟨r86,r87⟩,hr,h1⟩:=bnd h1
      refine TL_callB [] (quant_Scales.ok0 hr) quant_Scales.fnb rfl ⟨tv,⟨tv,tv⟩⟩ rfl tv rfl ?_
      refine zv 5 rfl ⟨tv,tv,tv,⟨tv,tv,(by decide),(by decide)⟩,⟨tv,tv⟩,tv⟩ ?_
      refine TL_end ?_
      refine tbn ?_
      refine zt ?_
      refine zv 2 rfl ⟨⟨tv,tv,tv⟩,tv,tv⟩ ?_
      refine zm ?_
      refine TE_renw (A':=[(9,.p 1011000 0),(28,.agg [.im (.slice (.slice (.int .i32))) _,.im (.slice (.slice (.int .i32))) _,.im (.slice (.slice (.int .i32))) _,.im (.slice (.slice (.int .i32))) _]),(29,.int .i64 3)]) (L':=[(1011000,some (.cells [.im (.slice (.int .i64)) _,.im (.slice (.int .i64)) _,.im (.slice (.int .i64)) _,.nils]))]) [(1011000,1010000)] ⟨rfl,rfl,rfl,tv⟩ ⟨rfl,tv⟩ rfl ?_
      refine TE_lb ?_
      refine zr ?_
      refine zv 1 rfl ⟨⟨tv,tv,tv⟩,tv⟩ ?_
      refine ze ?_
      refine TC_seq ?_
      refine TC_cond rfl (fun hb=>?_) (fun hb=>?_)
      ·refine TC_skip ?_
       refine TE_go ?_
       refine TC_seq ?_
       refine TC_blk ?_
       refine zr ?_
       refine zv 4 rfl ⟨tv,⟨tv,tv,(by decide),(by decide)⟩,tv,tv,tv⟩ ?_
       refine ze ?_
       refine TC_reg ?_
       refine zv 2 rfl ⟨tv,tv,tv⟩ ?_
       obtain ⟨⟨r90,r91⟩,hr,h1⟩:=bnd h1
       refine TL_callB [] (quant_Scales.ok0 hr) quant_Scales.fnb rfl ⟨tv,⟨tv,tv⟩⟩ rfl tv rfl ?_
       refine zv 5 rfl ⟨tv,tv,tv,⟨tv,tv,(by decide),(by decide)⟩,⟨tv,tv⟩,tv⟩ ?_
       refine TL_end ?_
       refine tbn ?_
       refine zt ?_
       refine zv 2 rfl ⟨⟨tv,tv,tv⟩,tv,tv⟩ ?_
       refine zm ?_
       refine TE_renw (A':=[(9,.p 1012000 0),(28,.agg [.im (.slice (.slice (.int .i32))) _,.im (.slice (.slice (.int .i32))) _,.im (.slice (.slice (.int .i32))) _,.im (.slice (.slice (.int .i32))) _]),(29,.int .i64 4)]) (L':=[(1012000,some (.cells [.im (.slice (.int .i64)) _,.im (.slice (.int .i64)) _,.im (.slice (.int .i64)) _,.im (.slice (.int .i64)) _]))]) [(1012000,1011000)] ⟨rfl,rfl,rfl,tv⟩ ⟨rfl,tv⟩ rfl ?_
       refine TE_lb ?_
       refine zr ?_
       refine zv 1 rfl ⟨⟨tv,tv,tv⟩,tv⟩ ?_
       refine ze ?_
       refine TC_seq ?_
       refine TC_cond rfl (fun hb=>?_) (fun hb=>?_)
       ·first | exact (ftf hb).elim | exact (tff hb).elim | exact absurd hb (by decide)
       ·refine TC_exit ?_
        refine tsx ?_
        refine tsx ?_
        refine tbe ?_
        obtain rfl:=sinj h1
        refine tsn ?_
        exact SP_ren [(10600,1012000)] (_,_,_,_) rfl ⟨rfl,tv⟩ ⟨rfl,tv⟩ rfl
      ·first | exact (ftf hb).elim | exact (tff hb).elim | exact absurd hb (by decide)
     ·first | exact (ftf hb).elim | exact (tff hb).elim | exact absurd hb (by decide)
    ·first | exact (ftf hb).elim | exact (tff hb).elim | exact absurd hb (by decide)
   ·first | exact (ftf hb).elim | exact (tff hb).elim | exact absurd hb (by decide)
  ·rintro ⟨x48,x49,x50,x51⟩ rfl
   refine zg ?_
   obtain ⟨g,h0⟩:=gd_t h0
   refine zv 5 rfl ⟨⟨tv,tv,(by decide),(by decide)⟩,⟨tv,tv⟩,⟨tv,tv⟩,⟨tv,tv,g.1,g.2.1,g.2.2⟩,tv,tv⟩ ?_
   refine ze ?_
   refine TC_seq ?_
   refine zr ?_
   obtain ⟨g,h0⟩:=gd_t h0
   refine zv 7 rfl ⟨tv,tv,⟨tv,tv⟩,⟨tv,tv,tv⟩,⟨tv,tv,tv,g.1,g.2.1,g.2.2⟩,⟨tv,tv⟩,tv,tv⟩ ?_
   refine ze ?_
   obtain ⟨z1,h1,h0⟩:=bnd h0
   refine TC_cut (α:=(List (Bool))) (fun s=>z1 = s) (fun s=>[(12,.sl 11000)]) (fun s=>[(11000,some (.rows (.bool) s))]) ?_ ?_
   ·refine TC_blk ?_
    refine TC_loop (α:=Int × (List (Bool))) (fun n s=>quant_Joins.l0 K (((Int.toNat (kwrap .i64 (((List.replicate (Int.toNat (x48.length : Int)) (false : Bool)).length : Int) - 1))) : Nat) : Int) x48 x49 x50 x51 n s.1 s.2 = some z1) (fun s=>[(9,.p 11200 0),(12,.sl 11201),(50,.int .i64 (((Int.toNat (kwrap .i64 (((List.replicate (Int.toNat (x48.length : Int)) (false : Bool)).length : Int) - 1))) : Nat) : Int)),(51,.int .i64 s.1)]) (fun s=>[(11200,some (.cells [.im (.slice (.int .i64)) x48,.im (.slice (.int .i64)) x49,.im (.slice (.int .i64)) x50,.im (.slice (.int .i64)) x51])),(11201,some (.rows (.bool) s.2))]) K ?_ ?_
    ·exact SP_ren [(11200,10600),(11201,1044)] (_,_) h1 ⟨rfl,rfl,rfl,rfl,tv⟩ ⟨rfl,rfl,tv⟩ rfl
    rintro n ⟨x62,x63⟩ h1
    rcases n with _ | n
    ·exact (nsome h1).elim
    replace h1 : quant_Joins.r0 K (((Int.toNat (kwrap .i64 (((List.replicate (Int.toNat (x48.length : Int)) (false : Bool)).length : Int) - 1))) : Nat) : Int) x48 x49 x50 x51 (quant_Joins.l0 K (((Int.toNat (kwrap .i64 (((List.replicate (Int.toNat (x48.length : Int)) (false : Bool)).length : Int) - 1))) : Nat) : Int) x48 x49 x50 x51 n) x62 x63 = some z1:=h1
    refine zr ?_
    refine zv 1 rfl ⟨⟨tv,tv,tv⟩,tv⟩ ?_
    refine ze ?_
    refine TC_seq ?_
    refine TC_cond rfl (fun hb=>?_) (fun hb=>?_)
    ·replace h1:=bif_t h1 hb
     refine TC_skip ?_
     refine TE_go ?_
     refine TC_seq ?_
     refine TC_blk ?_
     refine zr ?_
     refine zv 2 rfl ⟨tv,tv,tv⟩ ?_
     refine ze ?_
     refine TC_renw (A':=[(9,.p 11200 0),(12,.sl 11201),(13,.int .i64 _),(50,.int .i64 _),(51,.int .i64 _)]) (L':=[(11200,some (.cells [.im (.slice (.int .i64)) _,.im (.slice (.int .i64)) _,.im (.slice (.int .i64)) _,.im (.slice (.int .i64)) _])),(11201,some (.rows (.bool) _))]) [] ⟨rfl,rfl,rfl,rfl,rfl,tv⟩ ⟨rfl,rfl,tv⟩ rfl ?_
     refine zd [[],[],[],[2],[],[4,3,2],[5,4,3,2],[],[7],[],[9,8,7],[10,9,8,7],[11,10,9,8,7,6,5,4,3,2],[],[13],[],[15,14,13],[16,15,14,13],[],[18],[],[20,19,18],[21,20,19,18],[22,21,20,19,18,17,16,15,14,13],[23,22,21,20,19,18,17,16,15,14,13,12,11,10,9,8,7,6,5,4,3,2],[24,23,22,21,20,19,18,17,16,15,14,13,12,11,10,9,8,7,6,5,4,3,2,1,0],[25,24,23,22,21,20,19,18,17,16,15,14,13,12,11,10,9,8,7,6,5,4,3,2,1,0]] [[],[],[],[],[],[],[],[],[],[],[],[],[],[],[],[],[],[],[],[],[],[],[],[],[],[],[11201]] [[],[],[],[],[],[],[],[],[],[],[],[],[],[],[],[],[],[],[],[],[],[],[],[],[],[],[]] [[],[],[],[],[],[],[],[],[],[],[],[],[],[],[],[],[],[],[],[],[],[],[],[],[],[],[]] (by kernel_rfl) (by kernel_rfl) ?_
     refine zj 1 rfl rfl rfl tv ?_
     refine zj 2 rfl rfl rfl tv ?_
     refine zj 3 rfl rfl rfl ⟨tv,tv,(by decide),(by decide)⟩ ?_
     refine zj 4 rfl rfl rfl ⟨tv,tv⟩ ?_
     refine zj 5 rfl rfl rfl tv ?_
     obtain ⟨g,h1⟩:=gd_t h1
     refine zj 6 rfl rfl rfl ⟨tv,tv,g.1,g.2⟩ ?_
     refine zj 7 rfl rfl rfl ⟨tv,tv⟩ ?_
     refine zj 8 rfl rfl rfl ⟨tv,tv,(by decide),(by decide)⟩ ?_
     refine zj 9 rfl rfl rfl ⟨tv,tv⟩ ?_
     refine zj 10 rfl rfl rfl tv ?_
     obtain ⟨g,h1⟩:=gd_t h1
     refine zj 11 rfl rfl rfl ⟨tv,tv,g.1,g.2⟩ ?_
     refine zj 12 rfl rfl rfl ⟨tv,tv⟩ ?_
     refine zj 13 rfl rfl rfl ⟨tv,tv,tv⟩ ?_
     refine zj 14 rfl rfl rfl ⟨tv,tv,(by decide),(by decide)⟩ ?_
     refine zj 15 rfl rfl rfl ⟨tv,tv⟩ ?_
     refine zj 16 rfl rfl rfl tv ?_
     obtain ⟨g,h1⟩:=gd_t h1
     refine zj 17 rfl rfl rfl ⟨tv,tv,g.1,g.2⟩ ?_
     refine zj 18 rfl rfl rfl ⟨tv,tv⟩ ?_
     refine zj 19 rfl rfl rfl ⟨tv,tv,(by decide),(by decide)⟩ ?_
     refine zj 20 rfl rfl rfl ⟨tv,tv⟩ ?_
     refine zj 21 rfl rfl rfl tv ?_
     obtain ⟨g,h1⟩:=gd_t h1
     refine zj 22 rfl rfl rfl ⟨tv,tv,g.1,g.2⟩ ?_
     refine zj 23 rfl rfl rfl ⟨tv,tv⟩ ?_
     refine zj 24 rfl rfl rfl ⟨tv,tv,tv⟩ ?_
     refine zj 25 rfl rfl rfl ⟨tv,tv,tv⟩ ?_
     obtain ⟨g,h1⟩:=gd_t h1
     refine zj 26 rfl rfl rfl ⟨tv,tv,g.1,g.2⟩ ?_
     obtain ⟨g,h1⟩:=gd_t h1
     refine zj 27 rfl rfl rfl ⟨tv,tv,g⟩ ?_
     refine AJR_end rfl rfl rfl ?_
     refine tbn ?_
     refine zt ?_
     refine zv 2 rfl ⟨⟨tv,tv,tv⟩,tv,tv⟩ ?_
     refine zm ?_
     exact TE_nextr [(11200,11200),(11201,11201)] n (zs n) (_,_) h1 ⟨rfl,rfl,rfl,rfl,tv⟩ ⟨rfl,rfl,tv⟩ rfl
    ·replace h1:=bif_f h1 hb
     refine TC_exit ?_
     refine tsx ?_
     refine tsx ?_
     refine tbe ?_
     obtain rfl:=sinj h1
     refine tsn ?_
     exact SP_ren [(11000,11201)] _ rfl ⟨rfl,tv⟩ ⟨rfl,tv⟩ rfl
   ·rintro x61 hz
    obtain rfl:=hz.symm
    refine zg ?_
    refine zv 3 rfl ⟨tv,tv,tv,tv⟩ ?_
    refine ze ?_
    refine TC_ret ?_
    refine TE_frz 11000 rfl ?_
    obtain rfl:=sinj h0
    exact TE_ret env rfl tv tv
theorem quant_Joins.ok0 {K : Nat} {p0 p1 : List (List Int)} {q0 : List (Bool)} {q1 : Int} (h0 : quant_Joins K p0 p1 = some (q0,q1)) : Fn Tryz.prog 75 [.im (.slice (.slice (.int .i32))) p0,.im (.slice (.slice (.int .i32))) p1] [] (.tup [.im (.slice (.bool)) q0,.int .i64 q1]) []:=quant_Joins.ok h0
theorem quant_Joins.fnb : fnb Tryz.prog 75 = true:=fnb_of Tryz.func75 rfl
def slices_Index_int_int_2.res (_p0 : Int) (_p1 : List Int) : Int → MV
 | q0=>.int .i64 q0
def slices_Index_int_int_2.out (_p0 : Int) (p1 : List Int) : Int → List (Nat × Option MObj)
 | _=>[(0,some (.rows (.int .i64) p1))]
theorem slices_Index_int_int_2.ok {K : Nat} {p0 : Int} {p1 : List Int} {r : Int} (h0 : slices_Index_int_int_2 K p0 p1 = some r) : Fn Tryz.prog 177 [.sl 0,.int .i64 p0] [(0,some (.rows (.int .i64) p1))] (slices_Index_int_int_2.res p0 p1 r) (slices_Index_int_int_2.out p0 p1 r):=by
 refine Fn_of Tryz.func177 rfl (Nat.le_of_ble_eq_true rfl) fun Γ=>?_
 refine zr ?_
 refine zv 1 rfl ⟨tv,tv⟩ ?_
 refine ze ?_
 refine TC_seq ?_
 refine zr ?_
 refine zv 3 rfl ⟨tv,⟨tv,tv⟩,tv,tv⟩ ?_
 refine ze ?_
 obtain ⟨z1,h1,h0⟩:=bnd h0
 refine TC_cut (α:=Unit) (fun _=>z1 = .inl ()) (fun _=>[]) (fun _=>[(0,some (.rows (.int .i64) p1))]) ?_ ?_
 ·refine TC_blk ?_
  refine TC_loop (α:=Int) (fun n s=>slices_Index_int_int_2.l0 K p0 (p1.length : Int) p1 n s = some z1) (fun s=>[(0,.sl 0),(1,.int .i64 p0),(7,.int .i64 (p1.length : Int)),(8,.int .i64 s)]) (fun s=>[(0,some (.rows (.int .i64) p1))]) K ?_ ?_
  ·exact SP_ren [] _ h1 ⟨rfl,rfl,rfl,rfl,tv⟩ ⟨rfl,tv⟩ rfl
  rintro n x5 h1
  rcases n with _ | n
  ·exact (nsome h1).elim
  replace h1 : slices_Index_int_int_2.r0 K p0 (p1.length : Int) p1 (slices_Index_int_int_2.l0 K p0 (p1.length : Int) p1 n) x5 = some z1:=h1
  refine zr ?_
  refine zv 1 rfl ⟨⟨tv,tv,tv⟩,tv⟩ ?_
  refine ze ?_
  refine TC_seq ?_
  refine TC_cond rfl (fun hb=>?_) (fun hb=>?_)
  ·replace h1:=bif_t h1 hb
   refine TC_skip ?_
   refine TE_go ?_
   refine TC_seq ?_
   refine TC_blk ?_
   refine zr ?_
   refine zv 2 rfl ⟨tv,tv,tv⟩ ?_
   refine zn ?_
   obtain ⟨g,h1⟩:=gd_t h1
   refine zv 6 rfl ⟨tv,tv,tv,⟨tv,tv,g.1,g.2.1⟩,⟨tv,g.2.2⟩,⟨tv,tv,tv⟩,tv⟩ ?_
   refine ze ?_
   refine TC_cond rfl (fun hb=>?_) (fun hb=>?_)
   ·replace h1:=bif_t h1 hb
    refine zr ?_
    refine zv 2 rfl ⟨tv,tv,tv⟩ ?_
    refine ze ?_
    refine TC_ret ?_
    refine tbr ?_
    refine tsr ?_
    refine tsr ?_
    refine tbr ?_
    refine tsr ?_
    refine tsr ?_
    obtain rfl:=sinj h1
    obtain rfl:=sinj h0
    exact TE_ret env rfl tv ⟨.inr rfl,tv⟩
   ·replace h1:=bif_f h1 hb
    refine TC_skip ?_
    refine tbn ?_
    refine zt ?_
    refine zv 2 rfl ⟨⟨tv,tv,tv⟩,tv,tv⟩ ?_
    refine zm ?_
    exact TE_nextr [] n (zs n) _ h1 ⟨rfl,rfl,rfl,rfl,tv⟩ ⟨rfl,tv⟩ rfl
  ·replace h1:=bif_f h1 hb
   refine TC_exit ?_
   refine tsx ?_
   refine tsx ?_
   refine tbe ?_
   obtain rfl:=sinj h1
   refine tsn ?_
   exact SP_ren [] () rfl tv ⟨rfl,tv⟩ rfl
 ·rintro ⟨⟩ rfl
  refine zg ?_
  refine zv 1 rfl ⟨tv,tv⟩ ?_
  refine ze ?_
  refine TC_ret ?_
  obtain rfl:=sinj h0
  exact TE_ret env rfl tv ⟨.inr rfl,tv⟩
theorem slices_Index_int_int_2.ok0 {K : Nat} {p0 : Int} {p1 : List Int} {q0 : Int} (h0 : slices_Index_int_int_2 K p0 p1 = some q0) : Fn Tryz.prog 177 [.sl 0,.int .i64 p0] [(0,some (.rows (.int .i64) p1))] (.int .i64 q0) [(0,some (.rows (.int .i64) p1))]:=slices_Index_int_int_2.ok h0
theorem slices_Index_int_int_2.fnb : fnb Tryz.prog 177 = true:=fnb_of Tryz.func177 rfl
def slices_Contains_int_int_2.res (_p0 : Int) (_p1 : List Int) : Bool → MV
 | q0=>.bool q0
def slices_Contains_int_int_2.out (_p0 : Int) (p1 : List Int) : Bool → List (Nat × Option MObj)
 | _=>[(0,some (.rows (.int .i64) p1))]
theorem slices_Contains_int_int_2.ok {K : Nat} {p0 : Int} {p1 : List Int} {r : Bool} (h0 : slices_Contains_int_int_2 K p0 p1 = some r) : Fn Tryz.prog 134 [.sl 0,.int .i64 p0] [(0,some (.rows (.int .i64) p1))] (slices_Contains_int_int_2.res p0 p1 r) (slices_Contains_int_int_2.out p0 p1 r):=by
 refine Fn_of Tryz.func134 rfl (Nat.le_of_ble_eq_true rfl) fun Γ=>?_
 refine zr ?_
 refine zv 1 rfl ⟨tv,tv⟩ ?_
 refine zn ?_
 refine zv 2 rfl ⟨tv,tv,tv⟩ ?_
 obtain ⟨r2,hr,h0⟩:=bnd h0
 refine TL_callB [(0,0)] (slices_Index_int_int_2.ok0 hr) slices_Index_int_int_2.fnb rfl ⟨tv,⟨tv,⟨tv,tv⟩⟩⟩ rfl ⟨.inr rfl,tv⟩ rfl ?_
 refine zv 2 rfl ⟨⟨tv,tv,tv⟩,tv,tv⟩ ?_
 refine ze ?_
 refine TC_ret ?_
 obtain rfl:=sinj h0
 exact TE_ret env rfl tv ⟨.inr rfl,tv⟩
theorem slices_Contains_int_int_2.ok0 {K : Nat} {p0 : Int} {p1 : List Int} {q0 : Bool} (h0 : slices_Contains_int_int_2 K p0 p1 = some q0) : Fn Tryz.prog 134 [.sl 0,.int .i64 p0] [(0,some (.rows (.int .i64) p1))] (.bool q0) [(0,some (.rows (.int .i64) p1))]:=slices_Contains_int_int_2.ok h0
theorem slices_Contains_int_int_2.fnb : fnb Tryz.prog 134 = true:=fnb_of Tryz.func134 rfl
def slices_Clone_int32_int32.res (_p0 : List Int) : (List Int) → MV
 | _=>.sl 1000
def slices_Clone_int32_int32.out (_p0 : List Int) : (List Int) → List (Nat × Option MObj)
 | q0=>[(1000,some (.rows (.int .i32) q0))]
theorem slices_Clone_int32_int32.ok {K : Nat} {p0 : List Int} {r : (List Int)} (h0 : slices_Clone_int32_int32 K p0 = some r) : Fn Tryz.prog 178 [.im (.slice (.int .i32)) p0] [] (slices_Clone_int32_int32.res p0 r) (slices_Clone_int32_int32.out p0 r):=by
 refine Fn_of Tryz.func178 rfl (Nat.le_of_ble_eq_true rfl) fun Γ=>?_
 refine zr ?_
 refine zv 1 rfl ⟨tv,tv⟩ ?_
 refine ze ?_
 refine TC_seq ?_
 refine zr ?_
 obtain ⟨g,h0⟩:=gd_t h0
 refine zv 2 rfl ⟨tv,⟨tv,tv,g⟩,tv⟩ ?_
 refine ze ?_
 refine TC_cond rfl (fun hb=>?_) (fun hb=>?_)
 ·first | exact (ftf hb).elim | exact (tff hb).elim | exact absurd hb (by decide)
 ·refine TC_skip ?_
  refine zg ?_
  obtain ⟨g,h0⟩:=gd_t h0
  refine zv 4 rfl ⟨tv,tv,⟨⟨tv,tv,tv⟩,g⟩,tv,tv⟩ ?_
  refine ze ?_
  refine TC_ret ?_
  obtain rfl:=sinj h0
  refine TE_renw (A':=[(2,.sl 1000)]) (L':=[(1000,some (.rows (.int .i32) _))]) [(1000,1007)] ⟨rfl,tv⟩ ⟨rfl,tv⟩ rfl ?_
  exact TE_ret env rfl tv ⟨.inr rfl,tv⟩
theorem slices_Clone_int32_int32.ok0 {K : Nat} {p0 q0 : List Int} (h0 : slices_Clone_int32_int32 K p0 = some q0) : Fn Tryz.prog 178 [.im (.slice (.int .i32)) p0] [] (.sl 1000) [(1000,some (.rows (.int .i32) q0))]:=slices_Clone_int32_int32.ok h0
theorem slices_Clone_int32_int32.fnb : fnb Tryz.prog 178 = true:=fnb_of Tryz.func178 rfl
def subband_clone.res (_p0 : List (List Int)) : (List (List Int)) → MV
 | _=>.sl 1000
def subband_clone.out (_p0 : List (List Int)) : (List (List Int)) → List (Nat × Option MObj)
 | q0=>[(1000,some (.rr true (.int .i32) q0 none))]
theorem subband_clone.ok {K : Nat} {p0 : List (List Int)} {r : (List (List Int))} (h0 : subband_clone K p0 = some r) : Fn Tryz.prog 135 [.im (.slice (.slice (.int .i32))) p0] [] (subband_clone.res p0 r) (subband_clone.out p0 r):=by
 refine Fn_of Tryz.func135 rfl (Nat.le_of_ble_eq_true rfl) fun Γ=>?_
 refine zr ?_
 refine zv 1 rfl ⟨tv,tv⟩ ?_
 refine zn ?_
 obtain ⟨g,h0⟩:=gd_t h0
 refine zv 4 rfl ⟨tv,⟨tv,tv⟩,⟨tv,tv,g.1,g.2.1,g.2.2⟩,tv,tv⟩ ?_
 refine ze ?_
 refine TC_seq ?_
 refine zr ?_
 refine zv 3 rfl ⟨tv,⟨tv,tv⟩,tv,tv⟩ ?_
 refine ze ?_
 obtain ⟨z1,h1,h0⟩:=bnd h0
 refine TC_cut (α:=(List (List Int))) (fun s=>z1 = s) (fun s=>[(3,.sl 10800)]) (fun s=>[(10800,some (.rr true (.int .i32) s none))]) ?_ ?_
 ·refine TC_blk ?_
  refine TC_loop (α:=Int × (List (List Int))) (fun n s=>subband_clone.l0 K p0 (p0.length : Int) n s.1 s.2 = some z1) (fun s=>[(3,.sl 11000),(9,.im (.slice (.slice (.int .i32))) p0),(10,.int .i64 (p0.length : Int)),(11,.int .i64 s.1)]) (fun s=>[(11000,some (.rr true (.int .i32) s.2 none))]) K ?_ ?_
  ·exact SP_ren [(11000,1008)] (_,_) h1 ⟨rfl,rfl,rfl,rfl,tv⟩ ⟨rfl,tv⟩ rfl
  rintro n ⟨x22,x23⟩ h1
  rcases n with _ | n
  ·exact (nsome h1).elim
  replace h1 : subband_clone.r0 K p0 (p0.length : Int) (subband_clone.l0 K p0 (p0.length : Int) n) x22 x23 = some z1:=h1
  refine zr ?_
  refine zv 1 rfl ⟨⟨tv,tv,tv⟩,tv⟩ ?_
  refine ze ?_
  refine TC_seq ?_
  refine TC_cond rfl (fun hb=>?_) (fun hb=>?_)
  ·replace h1:=bif_t h1 hb
   refine TC_skip ?_
   refine TE_go ?_
   refine TC_seq ?_
   refine TC_blk ?_
   refine zr ?_
   obtain ⟨g,h1⟩:=gd_t h1
   refine zv 5 rfl ⟨tv,⟨tv,tv,g.1,g.2⟩,⟨tv,tv⟩,tv,tv,tv⟩ ?_
   refine ze ?_
   refine TC_reg ?_
   refine zv 3 rfl ⟨tv,tv,tv,tv⟩ ?_
   obtain ⟨r31,hr,h1⟩:=bnd h1
   refine TL_callB [(1000,500190)] (slices_Clone_int32_int32.ok0 hr) slices_Clone_int32_int32.fnb rfl ⟨tv,⟨tv,tv⟩⟩ rfl tv rfl ?_
   obtain ⟨g,h1⟩:=gd_t h1
   refine zv 2 rfl ⟨⟨tv,tv,g.1,g.2.1⟩,⟨tv,tv,g.2.2,tv⟩,tv⟩ ?_
   refine TL_end ?_
   refine tbn ?_
   refine zt ?_
   refine zv 2 rfl ⟨⟨tv,tv,tv⟩,tv,tv⟩ ?_
   refine zm ?_
   exact TE_nextr [(11000,11000)] n (zs n) (_,_) h1 ⟨rfl,rfl,rfl,rfl,tv⟩ ⟨rfl,tv⟩ rfl
  ·replace h1:=bif_f h1 hb
   refine TC_exit ?_
   refine tsx ?_
   refine tsx ?_
   refine tbe ?_
   obtain rfl:=sinj h1
   refine tsn ?_
   exact SP_ren [(10800,11000)] _ rfl ⟨rfl,tv⟩ ⟨rfl,tv⟩ rfl
 ·rintro x19 hz
  obtain rfl:=hz.symm
  refine zg ?_
  refine zv 2 rfl ⟨tv,tv,tv⟩ ?_
  refine ze ?_
  refine TC_ret ?_
  obtain rfl:=sinj h0
  refine TE_renw (A':=[(2,.sl 1000)]) (L':=[(1000,some (.rr true (.int .i32) _ none))]) [(1000,10800)] ⟨rfl,tv⟩ ⟨rfl,tv⟩ rfl ?_
  exact TE_ret env rfl tv ⟨.inr rfl,tv⟩
theorem subband_clone.ok0 {K : Nat} {p0 q0 : List (List Int)} (h0 : subband_clone K p0 = some q0) : Fn Tryz.prog 135 [.im (.slice (.slice (.int .i32))) p0] [] (.sl 1000) [(1000,some (.rr true (.int .i32) q0 none))]:=subband_clone.ok h0
theorem subband_clone.fnb : fnb Tryz.prog 135 = true:=fnb_of Tryz.func135 rfl
def subband_Params_swapped_1.res (_p0 : Int) (_p1 _p2 _p3 _p4 : List (List Int)) : (List (List Int)) × (List (List Int)) → MV
 | (_,_)=>.tup []
def subband_Params_swapped_1.out (_p0 : Int) (p1 p2 _p3 _p4 : List (List Int)) : (List (List Int)) × (List (List Int)) → List (Nat × Option MObj)
 | (q0,q1)=>[(0,some (.cells [.im (.slice (.slice (.int .i32))) p1])),(1,some (.cells [.im (.slice (.slice (.int .i32))) p2])),(2,some (.cells [.hd 3 2])),(3,some (.cells [.sl 4,.sl 5])),(4,some (.rr true (.int .i32) q0 none)),(5,some (.rr true (.int .i32) q1 none))]
theorem subband_Params_swapped_1.ok {K : Nat} {p0 : Int} {p1 p2 p3 p4 : List (List Int)} {r : (List (List Int)) × (List (List Int))} (h0 : subband_Params_swapped_1 K p0 p1 p2 p3 p4 = some r) : Fn Tryz.prog 137 [.int .i64 p0,.p 0 0,.p 1 0,.p 2 0] [(0,some (.cells [.im (.slice (.slice (.int .i32))) p1])),(1,some (.cells [.im (.slice (.slice (.int .i32))) p2])),(2,some (.cells [.hd 3 2])),(3,some (.cells [.sl 4,.sl 5])),(4,some (.rr true (.int .i32) p3 none)),(5,some (.rr true (.int .i32) p4 none))] (subband_Params_swapped_1.res p0 p1 p2 p3 p4 r) (subband_Params_swapped_1.out p0 p1 p2 p3 p4 r):=by
 refine Fn_of Tryz.func137 rfl (Nat.le_of_ble_eq_true rfl) fun Γ=>?_
 refine zr ?_
 refine zv 3 rfl ⟨⟨tv,tv⟩,⟨tv,tv⟩,tv,tv⟩ ?_
 refine ze ?_
 obtain ⟨z1,h1,h0⟩:=bnd h0
 refine TC_cut (α:=(List (List Int)) × (List (List Int))) (fun s=>z1 = s) (fun s=>[]) (fun s=>[(0,some (.cells [.im (.slice (.slice (.int .i32))) p1])),(1,some (.cells [.im (.slice (.slice (.int .i32))) p2])),(2,some (.cells [.hd 3 2])),(3,some (.cells [.sl 4,.sl 5])),(4,some (.rr true (.int .i32) s.1 none)),(5,some (.rr true (.int .i32) s.2 none))]) ?_ ?_
 ·refine TC_blk ?_
  refine TC_loop (α:=Int × (List (List Int)) × (List (List Int))) (fun n s=>subband_Params_swapped_1.l0 K p0 (p1.length : Int) p1 p2 n s.1 s.2.1 s.2.2 = some z1) (fun s=>[(0,.int .i64 p0),(1,.p 0 0),(2,.p 1 0),(3,.p 2 0),(7,.int .i64 (p1.length : Int)),(8,.int .i64 s.1)]) (fun s=>[(0,some (.cells [.im (.slice (.slice (.int .i32))) p1])),(1,some (.cells [.im (.slice (.slice (.int .i32))) p2])),(2,some (.cells [.hd 3 2])),(3,some (.cells [.sl 4,.sl 5])),(4,some (.rr true (.int .i32) s.2.1 none)),(5,some (.rr true (.int .i32) s.2.2 none))]) K ?_ ?_
  ·exact SP_ren [] (_,_,_) h1 ⟨rfl,rfl,rfl,rfl,rfl,rfl,tv⟩ ⟨rfl,rfl,rfl,rfl,rfl,rfl,tv⟩ rfl
  rintro n ⟨x17,x18,x19⟩ h1
  rcases n with _ | n
  ·exact (nsome h1).elim
  replace h1 : subband_Params_swapped_1.r0 K p0 (p1.length : Int) p1 p2 (subband_Params_swapped_1.l0 K p0 (p1.length : Int) p1 p2 n) x17 x18 x19 = some z1:=h1
  refine zr ?_
  refine zv 1 rfl ⟨⟨tv,tv,tv⟩,tv⟩ ?_
  refine ze ?_
  refine TC_seq ?_
  refine TC_cond rfl (fun hb=>?_) (fun hb=>?_)
  ·replace h1:=bif_t h1 hb
   refine TC_skip ?_
   refine TE_go ?_
   refine TC_seq ?_
   refine TC_blk ?_
   refine zr ?_
   refine zv 2 rfl ⟨tv,tv,tv⟩ ?_
   refine ze ?_
   refine TC_renw (A':=[(0,.int .i64 _),(1,.p 0 0),(2,.p 1 0),(3,.p 2 0),(5,.int .i64 _),(7,.int .i64 _),(8,.int .i64 _)]) (L':=[(0,some (.cells [.im (.slice (.slice (.int .i32))) _])),(1,some (.cells [.im (.slice (.slice (.int .i32))) _])),(2,some (.cells [.hd 3 2])),(3,some (.cells [.sl 4,.sl 5])),(4,some (.rr true (.int .i32) _ none)),(5,some (.rr true (.int .i32) _ none))]) [] ⟨rfl,rfl,rfl,rfl,rfl,rfl,rfl,tv⟩ ⟨rfl,rfl,rfl,rfl,rfl,rfl,tv⟩ rfl ?_
   refine zd [[],[0],[1,0],[],[3,2,1,0],[4,3,2,1,0],[],[],[7],[8,7],[],[10,9,8,7],[11,10,9,8,7],[],[],[],[15,14],[16,15,14],[],[18,17,16,15,14],[19,18,17,16,15,14],[],[],[22,21],[23,22,21],[],[25,24,23,22,21],[26,25,24,23,22,21],[27,26,25,24,23,22,21,20,19,18,17,16,15,14,12,11,10,9,8,7,6,5,4,3,2,1,0],[28,27,26,25,24,23,22,21,20,19,18,17,16,15,14,12,11,10,9,8,7,6,5,4,3,2,1,0],[29,28,27,26,25,24,23,22,21,20,19,18,17,16,15,14,13,12,11,10,9,8,7,6,5,4,3,2,1,0],[30,29,28,27,26,25,24,23,22,21,20,19,18,17,16,15,14,13,12,11,10,9,8,7,6,5,4,3,2,1,0]] [[],[],[],[],[],[4,1016],[],[],[],[],[],[],[5,1023],[],[],[],[],[],[],[],[],[],[],[],[],[],[],[],[],[1016],[],[1023]] [[],[],[],[],[],[1016],[],[],[],[],[],[],[1023],[],[],[],[],[],[],[],[],[],[],[],[],[],[],[],[],[],[],[]] [[5,1023],[5,1023],[5,1023],[5,1023],[5,1023],[5,1023],[4,5,1016,1023],[4,1016],[4,1016],[4,1016],[4,1016],[4,1016],[4,1016],[4,5,1016,1023],[4,5,1016,1023],[4,5,1016,1023],[4,5,1016,1023],[4,5,1016,1023],[4,5,1016,1023],[4,5,1016,1023],[4,5,1016,1023],[4,5,1016,1023],[4,5,1016,1023],[4,5,1016,1023],[4,5,1016,1023],[4,5,1016,1023],[4,5,1016,1023],[4,5,1016,1023],[],[],[],[]] (by kernel_rfl) (by kernel_rfl) ?_
   refine zj 1 rfl rfl rfl ⟨tv,tv⟩ ?_
   refine zj 2 rfl rfl rfl ⟨tv,tv,(by decide),(by decide)⟩ ?_
   refine zj 3 rfl rfl rfl ⟨tv,tv⟩ ?_
   refine zj 4 rfl rfl rfl tv ?_
   obtain ⟨g,h1⟩:=gd_t h1
   refine zj 5 rfl rfl rfl ⟨tv,tv,g.1,g.2⟩ ?_
   obtain ⟨g,h1⟩:=gd_t h1
   refine zj 6 rfl rfl rfl ⟨tv,g⟩ ?_
   refine zj 7 rfl rfl rfl tv ?_
   refine zj 8 rfl rfl rfl ⟨tv,tv⟩ ?_
   refine zj 9 rfl rfl rfl ⟨tv,tv,(by decide),(by decide)⟩ ?_
   refine zj 10 rfl rfl rfl ⟨tv,tv⟩ ?_
   refine zj 11 rfl rfl rfl tv ?_
   obtain ⟨g,h1⟩:=gd_t h1
   refine zj 12 rfl rfl rfl ⟨tv,tv,g.1,g.2⟩ ?_
   obtain ⟨g,h1⟩:=gd_t h1
   refine zj 13 rfl rfl rfl ⟨tv,g⟩ ?_
   refine zj 14 rfl rfl rfl tv ?_
   refine zj 15 rfl rfl rfl ⟨tv,tv⟩ ?_
   refine zj 16 rfl rfl rfl tv ?_
   obtain ⟨g,h1⟩:=gd_t h1
   refine zj 17 rfl rfl rfl ⟨tv,tv,g.1,g.2⟩ ?_
   refine zj 18 rfl rfl rfl ⟨tv,tv⟩ ?_
   refine zj 19 rfl rfl rfl tv ?_
   obtain ⟨g,h1⟩:=gd_t h1
   refine zj 20 rfl rfl rfl ⟨tv,tv,g.1,g.2⟩ ?_
   refine zj 21 rfl rfl rfl ⟨tv,tv⟩ ?_
   refine zj 22 rfl rfl rfl ⟨tv,tv⟩ ?_
   refine zj 23 rfl rfl rfl tv ?_
   obtain ⟨g,h1⟩:=gd_t h1
   refine zj 24 rfl rfl rfl ⟨tv,tv,g.1,g.2⟩ ?_
   refine zj 25 rfl rfl rfl ⟨tv,tv⟩ ?_
   refine zj 26 rfl rfl rfl tv ?_
   obtain ⟨g,h1⟩:=gd_t h1
   refine zj 27 rfl rfl rfl ⟨tv,tv,g.1,g.2⟩ ?_
   refine zj 28 rfl rfl rfl ⟨tv,tv⟩ ?_
   obtain ⟨g,h1⟩:=gd_t h1
   refine zj 29 rfl rfl rfl ⟨tv,tv,g.1,g.2⟩ ?_
   obtain ⟨g,h1⟩:=gd_t h1
   refine zj 30 rfl rfl rfl ⟨tv,tv,g⟩ ?_
   obtain ⟨g,h1⟩:=gd_t h1
   refine zj 31 rfl rfl rfl ⟨tv,tv,g.1,g.2⟩ ?_
   obtain ⟨g,h1⟩:=gd_t h1
   refine zj 32 rfl rfl rfl ⟨tv,tv,g⟩ ?_
   refine AJR_end rfl rfl rfl ?_
   refine tbn ?_
   refine zt ?_
   refine zv 2 rfl ⟨⟨tv,tv,tv⟩,tv,tv⟩ ?_
   refine zm ?_
   refine TE_putb 4 1016 rfl rfl ?_
   refine TE_putb 5 1023 rfl rfl ?_
   exact TE_nextr [] n (zs n) (_,_,_) h1 ⟨rfl,rfl,rfl,rfl,rfl,rfl,tv⟩ ⟨rfl,rfl,rfl,rfl,rfl,rfl,tv⟩ rfl
  ·replace h1:=bif_f h1 hb
   refine TC_exit ?_
   refine tsx ?_
   refine tsx ?_
   refine tbe ?_
   obtain rfl:=sinj h1
   refine tsn ?_
   exact SP_ren [] (_,_) rfl tv ⟨rfl,rfl,rfl,rfl,rfl,rfl,tv⟩ rfl
 ·rintro ⟨x15,x16⟩ rfl
  obtain rfl:=sinj h0
  exact TE_end env rfl tv ⟨.inr rfl,.inr rfl,.inr rfl,.inr rfl,.inr rfl,.inr rfl,tv⟩
theorem subband_Params_swapped_1.ok0 {K : Nat} {p0 : Int} {p1 p2 p3 p4 q0 q1 : List (List Int)} (h0 : subband_Params_swapped_1 K p0 p1 p2 p3 p4 = some (q0,q1)) : Fn Tryz.prog 137 [.int .i64 p0,.p 0 0,.p 1 0,.p 2 0] [(0,some (.cells [.im (.slice (.slice (.int .i32))) p1])),(1,some (.cells [.im (.slice (.slice (.int .i32))) p2])),(2,some (.cells [.hd 3 2])),(3,some (.cells [.sl 4,.sl 5])),(4,some (.rr true (.int .i32) p3 none)),(5,some (.rr true (.int .i32) p4 none))] (.tup []) [(0,some (.cells [.im (.slice (.slice (.int .i32))) p1])),(1,some (.cells [.im (.slice (.slice (.int .i32))) p2])),(2,some (.cells [.hd 3 2])),(3,some (.cells [.sl 4,.sl 5])),(4,some (.rr true (.int .i32) q0 none)),(5,some (.rr true (.int .i32) q1 none))]:=subband_Params_swapped_1.ok h0
theorem subband_Params_swapped_1.fnb : fnb Tryz.prog 137 = true:=fnb_of Tryz.func137 rfl
def subband_Params_each.res (_p0 _p1 : List (List Int)) (_p2 : List Int) (_p3 _p4 : List (List Int)) : (List (List Int)) × (List (List Int)) → MV
 | (_,_)=>.tup []
def subband_Params_each.out (p0 p1 : List (List Int)) (p2 : List Int) (_p3 _p4 : List (List Int)) : (List (List Int)) × (List (List Int)) → List (Nat × Option MObj)
 | (q0,q1)=>[(0,some (.cells [.sl 4,.nils,.nils])),(1,some (.cells [.im (.slice (.slice (.int .i32))) p0])),(2,some (.cells [.im (.slice (.slice (.int .i32))) p1])),(3,some (.cells [.hd 5 2])),(4,some (.rows (.int .i64) p2)),(5,some (.cells [.sl 6,.sl 7])),(6,some (.rr true (.int .i32) q0 none)),(7,some (.rr true (.int .i32) q1 none))]
theorem subband_Params_each.ok {K : Nat} {p0 p1 : List (List Int)} {p2 : List Int} {p3 p4 : List (List Int)} {r : (List (List Int)) × (List (List Int))} (h0 : subband_Params_each K p0 p1 p2 p3 p4 = some r) : Fn Tryz.prog 136 [.p 0 0,.fn 137 [.p 1 0,.p 2 0,.p 3 0]] [(0,some (.cells [.sl 4,.nils,.nils])),(1,some (.cells [.im (.slice (.slice (.int .i32))) p0])),(2,some (.cells [.im (.slice (.slice (.int .i32))) p1])),(3,some (.cells [.hd 5 2])),(4,some (.rows (.int .i64) p2)),(5,some (.cells [.sl 6,.sl 7])),(6,some (.rr true (.int .i32) p3 none)),(7,some (.rr true (.int .i32) p4 none))] (subband_Params_each.res p0 p1 p2 p3 p4 r) (subband_Params_each.out p0 p1 p2 p3 p4 r):=by
 refine Fn_of Tryz.func136 rfl (Nat.le_of_ble_eq_true rfl) fun Γ=>?_
 refine zr ?_
 refine zv 6 rfl ⟨tv,tv,tv,⟨tv,tv⟩,⟨tv,tv⟩,tv,tv⟩ ?_
 refine ze ?_
 obtain ⟨z1,h1,h0⟩:=bnd h0
 refine TC_cut (α:=(List (List Int)) × (List (List Int))) (fun s=>z1 = s) (fun s=>[]) (fun s=>[(0,some (.cells [.sl 4,.nils,.nils])),(1,some (.cells [.im (.slice (.slice (.int .i32))) p0])),(2,some (.cells [.im (.slice (.slice (.int .i32))) p1])),(3,some (.cells [.hd 5 2])),(4,some (.rows (.int .i64) p2)),(5,some (.cells [.sl 6,.sl 7])),(6,some (.rr true (.int .i32) s.1 none)),(7,some (.rr true (.int .i32) s.2 none))]) ?_ ?_
 ·refine TC_blk ?_
  refine TC_loop (α:=Int × (List (List Int)) × (List (List Int))) (fun n s=>subband_Params_each.l0 K (p2.length : Int) p0 p1 p2 n s.1 s.2.1 s.2.2 = some z1) (fun s=>[(1,.fn 137 [.p 1 0,.p 2 0,.p 3 0]),(9,.sl 4),(10,.int .i64 (p2.length : Int)),(11,.int .i64 s.1)]) (fun s=>[(0,some (.cells [.sl 4,.nils,.nils])),(1,some (.cells [.im (.slice (.slice (.int .i32))) p0])),(2,some (.cells [.im (.slice (.slice (.int .i32))) p1])),(3,some (.cells [.hd 5 2])),(4,some (.rows (.int .i64) p2)),(5,some (.cells [.sl 6,.sl 7])),(6,some (.rr true (.int .i32) s.2.1 none)),(7,some (.rr true (.int .i32) s.2.2 none))]) K ?_ ?_
  ·exact SP_ren [] (_,_,_) h1 ⟨rfl,rfl,rfl,rfl,tv⟩ ⟨rfl,rfl,rfl,rfl,rfl,rfl,rfl,rfl,tv⟩ rfl
  rintro n ⟨x37,x38,x39⟩ h1
  rcases n with _ | n
  ·exact (nsome h1).elim
  replace h1 : subband_Params_each.r0 K (p2.length : Int) p0 p1 p2 (subband_Params_each.l0 K (p2.length : Int) p0 p1 p2 n) x37 x38 x39 = some z1:=h1
  refine zr ?_
  refine zv 1 rfl ⟨⟨tv,tv,tv⟩,tv⟩ ?_
  refine ze ?_
  refine TC_seq ?_
  refine TC_cond rfl (fun hb=>?_) (fun hb=>?_)
  ·replace h1:=bif_t h1 hb
   refine TC_skip ?_
   refine TE_go ?_
   refine TC_seq ?_
   obtain ⟨z2,h2,h1⟩:=bnd h1
   refine TC_cut (α:=(List (List Int)) × (List (List Int))) (fun s=>z2 = s) (fun s=>[(1,.fn 137 [.p 1 0,.p 2 0,.p 3 0]),(9,.sl 4),(10,.int .i64 (p2.length : Int)),(11,.int .i64 x37)]) (fun s=>[(0,some (.cells [.sl 4,.nils,.nils])),(1,some (.cells [.im (.slice (.slice (.int .i32))) p0])),(2,some (.cells [.im (.slice (.slice (.int .i32))) p1])),(3,some (.cells [.hd 5 2])),(4,some (.rows (.int .i64) p2)),(5,some (.cells [.sl 6,.sl 7])),(6,some (.rr true (.int .i32) s.1 none)),(7,some (.rr true (.int .i32) s.2 none))]) ?_ ?_
   ·refine TC_blk ?_
    refine zr ?_
    obtain ⟨g,h2⟩:=gd_t h2
    refine zv 5 rfl ⟨tv,⟨tv,tv,g.1,g.2.1⟩,⟨tv,g.2.2⟩,tv,tv,tv⟩ ?_
    refine zn ?_
    refine zv 2 rfl ⟨tv,⟨tv,tv,tv⟩,tv⟩ ?_
    refine ze ?_
    refine TC_cond rfl (fun hb=>?_) (fun hb=>?_)
    ·replace h2:=bif_t h2 hb
     refine TC_reg ?_
     refine zv 2 rfl ⟨tv,tv,tv⟩ ?_
     obtain ⟨⟨r54,r55⟩,hr,h2⟩:=bnd h2
     refine TL_callB [(0,1),(1,2),(2,3),(3,5),(4,6),(5,7)] (subband_Params_swapped_1.ok0 hr) subband_Params_swapped_1.fnb rfl ⟨tv,⟨tv,tv⟩⟩ rfl ⟨.inr rfl,.inr rfl,.inr rfl,.inr rfl,.inr rfl,.inr rfl,tv⟩ rfl ?_
     refine TL_end ?_
     refine tbn ?_
     obtain rfl:=sinj h2
     refine tsn ?_
     exact SP_ren [] (_,_) rfl ⟨rfl,rfl,rfl,rfl,tv⟩ ⟨rfl,rfl,rfl,rfl,rfl,rfl,rfl,rfl,tv⟩ rfl
    ·replace h2:=bif_f h2 hb
     refine TC_skip ?_
     refine tbn ?_
     obtain rfl:=sinj h2
     refine tsn ?_
     exact SP_ren [] (_,_) rfl ⟨rfl,rfl,rfl,rfl,tv⟩ ⟨rfl,rfl,rfl,rfl,rfl,rfl,rfl,rfl,tv⟩ rfl
   ·rintro ⟨x50,x51⟩ rfl
    refine zt ?_
    refine zv 2 rfl ⟨⟨tv,tv,tv⟩,tv,tv⟩ ?_
    refine zm ?_
    exact TE_nextr [] n (zs n) (_,_,_) h1 ⟨rfl,rfl,rfl,rfl,tv⟩ ⟨rfl,rfl,rfl,rfl,rfl,rfl,rfl,rfl,tv⟩ rfl
  ·replace h1:=bif_f h1 hb
   refine TC_exit ?_
   refine tsx ?_
   refine tsx ?_
   refine tbe ?_
   obtain rfl:=sinj h1
   refine tsn ?_
   exact SP_ren [] (_,_) rfl tv ⟨rfl,rfl,rfl,rfl,rfl,rfl,rfl,rfl,tv⟩ rfl
 ·rintro ⟨x31,x32⟩ rfl
  obtain rfl:=sinj h0
  exact TE_end env rfl tv ⟨.inr rfl,.inr rfl,.inr rfl,.inr rfl,.inr rfl,.inr rfl,.inr rfl,.inr rfl,tv⟩
theorem subband_Params_each.ok0 {K : Nat} {p0 p1 : List (List Int)} {p2 : List Int} {p3 p4 q0 q1 : List (List Int)} (h0 : subband_Params_each K p0 p1 p2 p3 p4 = some (q0,q1)) : Fn Tryz.prog 136 [.p 0 0,.fn 137 [.p 1 0,.p 2 0,.p 3 0]] [(0,some (.cells [.sl 4,.nils,.nils])),(1,some (.cells [.im (.slice (.slice (.int .i32))) p0])),(2,some (.cells [.im (.slice (.slice (.int .i32))) p1])),(3,some (.cells [.hd 5 2])),(4,some (.rows (.int .i64) p2)),(5,some (.cells [.sl 6,.sl 7])),(6,some (.rr true (.int .i32) p3 none)),(7,some (.rr true (.int .i32) p4 none))] (.tup []) [(0,some (.cells [.sl 4,.nils,.nils])),(1,some (.cells [.im (.slice (.slice (.int .i32))) p0])),(2,some (.cells [.im (.slice (.slice (.int .i32))) p1])),(3,some (.cells [.hd 5 2])),(4,some (.rows (.int .i64) p2)),(5,some (.cells [.sl 6,.sl 7])),(6,some (.rr true (.int .i32) q0 none)),(7,some (.rr true (.int .i32) q1 none))]:=subband_Params_each.ok h0
theorem subband_Params_each.fnb : fnb Tryz.prog 136 = true:=fnb_of Tryz.func136 rfl
def subband_Params_swapped.res (_p0 : List (List (List Int))) (_p1 : List Int) : (List (List (List Int))) → MV
 | q0=>.im (.slice (.slice (.slice (.int .i32)))) q0
def subband_Params_swapped.out (_p0 : List (List (List Int))) (p1 : List Int) : (List (List (List Int))) → List (Nat × Option MObj)
 | _=>[(0,some (.cells [.sl 1,.nils,.nils])),(1,some (.rows (.int .i64) p1))]
theorem subband_Params_swapped.ok {K : Nat} {p0 : List (List (List Int))} {p1 : List Int} {r : (List (List (List Int)))} (h0 : subband_Params_swapped K p0 p1 = some r) : Fn Tryz.prog 76 [.p 0 0,.im (.slice (.slice (.slice (.int .i32)))) p0,.fn 77 []] [(0,some (.cells [.sl 1,.nils,.nils])),(1,some (.rows (.int .i64) p1))] (subband_Params_swapped.res p0 p1 r) (subband_Params_swapped.out p0 p1 r):=by
 refine Fn_of Tryz.func76 rfl (Nat.le_of_ble_eq_true rfl) fun Γ=>?_
 refine zr ?_
 refine zv 1 rfl ⟨tv,tv⟩ ?_
 refine ze ?_
 refine TC_seq ?_
 refine zr ?_
 refine zv 4 rfl ⟨tv,tv,tv,⟨tv,tv⟩,tv⟩ ?_
 obtain ⟨r9,hr,h0⟩:=bnd h0
 refine TL_callB [(0,1)] (slices_Contains_int_int_2.ok0 hr) slices_Contains_int_int_2.fnb rfl ⟨tv,⟨tv,⟨tv,tv⟩⟩⟩ rfl ⟨.inr rfl,tv⟩ rfl ?_
 refine zv 1 rfl ⟨tv,tv⟩ ?_
 refine ze ?_
 refine TC_cond rfl (fun hb=>?_) (fun hb=>?_)
 ·replace h0:=bif_t h0 hb
  refine zr ?_
  refine zv 2 rfl ⟨tv,tv,tv⟩ ?_
  refine ze ?_
  refine TC_ret ?_
  refine tsr ?_
  obtain rfl:=sinj h0
  exact TE_ret env rfl tv ⟨.inr rfl,.inr rfl,tv⟩
 ·replace h0:=bif_f h0 hb
  refine TC_skip ?_
  refine TE_go ?_
  refine TC_seq ?_
  refine TC_renw (A':=[(0,.p 0 0),(1,.im (.slice (.slice (.slice (.int .i32)))) _),(2,.fn 77 [])]) (L':=[(0,some (.cells [.sl 1,.nils,.nils])),(1,some (.rows (.int .i64) _))]) [] ⟨rfl,rfl,rfl,tv⟩ ⟨rfl,rfl,tv⟩ rfl ?_
  refine zd [[],[],[1],[2,1],[],[4],[5,4],[6,5,4,3,2,1,0],[7,6,5,4,3,2,1,0],[8,7,6,5,4,3,2,1,0],[8,7,6,5,4,3,2,1,0],[8,7,6,5,4,3,2,1,0],[],[],[13,12,9,8,7,6,5,4,3,2,1,0],[14,13,12,10,9,8,7,6,5,4,3,2,1,0],[15,14,13,12,11,10,9,8,7,6,5,4,3,2,1,0]] [[],[],[],[],[],[],[],[],[],[],[],[],[1007],[1008],[1007],[1008],[]] [[],[],[],[],[],[],[],[],[],[],[],[],[1007],[1008],[],[],[]] [[1007,1008],[1007,1008],[1007,1008],[1007,1008],[1007,1008],[1007,1008],[1007,1008],[1007,1008],[1007,1008],[1007,1008],[1007,1008],[1007,1008],[1008],[1007],[],[],[]] (by kernel_rfl) (by kernel_rfl) ?_
  refine zj 1 rfl rfl rfl tv ?_
  refine zj 2 rfl rfl rfl tv ?_
  obtain ⟨g,h0⟩:=gd_t h0
  refine zj 3 rfl rfl rfl ⟨tv,tv,(by decide),g⟩ ?_
  refine zj 4 rfl rfl rfl ⟨tv,tv⟩ ?_
  refine zj 5 rfl rfl rfl tv ?_
  obtain ⟨g,h0⟩:=gd_t h0
  refine zj 6 rfl rfl rfl ⟨tv,tv,(by decide),g⟩ ?_
  refine zj 7 rfl rfl rfl ⟨tv,tv⟩ ?_
  obtain ⟨⟨r12,r13,r14⟩,hr,h0⟩:=bnd h0
  refine AJR_call 8 rfl (Nat.le_of_ble_eq_true rfl) [] rfl (quant_Middle.ok0 hr) quant_Middle.fnb rfl ⟨tv,⟨tv,⟨tv,tv⟩⟩⟩ rfl tv rfl ?_
  refine zj 9 rfl rfl rfl tv ?_
  refine zj 10 rfl rfl rfl tv ?_
  refine zj 11 rfl rfl rfl tv ?_
  refine zj 12 rfl rfl rfl tv ?_
  refine zj 13 rfl rfl rfl tv ?_
  refine zj 14 rfl rfl rfl tv ?_
  refine zj 15 rfl rfl rfl ⟨tv,tv⟩ ?_
  refine zj 16 rfl rfl rfl ⟨tv,tv⟩ ?_
  refine zj 17 rfl rfl rfl tv ?_
  refine AJR_end rfl rfl rfl ?_
  refine TE_go ?_
  refine TC_seq ?_
  refine TC_renw (A':=[(0,.p 0 0),(1,.im (.slice (.slice (.slice (.int .i32)))) _),(7,.p 1007 0),(8,.p 1008 0)]) (L':=[(0,some (.cells [.sl 1,.nils,.nils])),(1,some (.rows (.int .i64) _)),(1007,some (.cells [.im (.slice (.slice (.int .i32))) _])),(1008,some (.cells [.im (.slice (.slice (.int .i32))) _]))]) [] ⟨rfl,rfl,rfl,rfl,tv⟩ ⟨rfl,rfl,rfl,rfl,tv⟩ rfl ?_
  refine zd [[],[0],[1,0],[2,1,0],[],[4],[5,4],[6,5,4,3,2,1,0],[7,6,5,4,3,2,1,0],[],[9,8,7,6,5,4,3,2,1,0]] [[],[],[],[500330],[],[],[],[500370],[1038],[1010],[1010]] [[],[],[],[500330],[],[],[],[500370],[1038],[1010],[]] [[1010],[1010],[1010],[1010],[1010,500330],[1010,500330],[1010,500330],[1010],[1010],[1038,500330,500370],[]] (by kernel_rfl) (by kernel_rfl) ?_
  refine zj 1 rfl rfl rfl tv ?_
  obtain ⟨g,h0⟩:=gd_t h0
  refine zj 2 rfl rfl rfl ⟨tv,tv,(by decide),g⟩ ?_
  refine zj 3 rfl rfl rfl ⟨tv,tv⟩ ?_
  obtain ⟨r15,hr,h0⟩:=bnd h0
  refine AJR_call 4 rfl (Nat.le_of_ble_eq_true rfl) [(1000,500330)] rfl (subband_clone.ok0 hr) subband_clone.fnb rfl ⟨tv,⟨tv,tv⟩⟩ rfl tv rfl ?_
  refine zj 5 rfl rfl rfl tv ?_
  obtain ⟨g,h0⟩:=gd_t h0
  refine zj 6 rfl rfl rfl ⟨tv,tv,(by decide),g⟩ ?_
  refine zj 7 rfl rfl rfl ⟨tv,tv⟩ ?_
  obtain ⟨r16,hr,h0⟩:=bnd h0
  refine AJR_call 8 rfl (Nat.le_of_ble_eq_true rfl) [(1000,500370)] rfl (subband_clone.ok0 hr) subband_clone.fnb rfl ⟨tv,⟨tv,tv⟩⟩ rfl tv rfl ?_
  refine AJR_ev envH 9 rfl (Nat.le_of_ble_eq_true rfl) rfl ⟨tv,⟨tv,tv⟩⟩ ?_
  refine zj 10 rfl rfl rfl tv ?_
  refine zj 11 rfl rfl rfl ⟨tv,tv⟩ ?_
  refine AJR_end rfl rfl rfl ?_
  refine zg ?_
  refine zv 2 rfl ⟨tv,⟨tv,tv,tv,tv⟩,tv⟩ ?_
  obtain ⟨⟨r17,r18⟩,hr,h0⟩:=bnd h0
  refine TL_callB [(0,0),(1,1007),(2,1008),(3,1010),(4,1),(5,1038),(6,500330),(7,500370)] (subband_Params_each.ok0 hr) subband_Params_each.fnb rfl ⟨tv,⟨tv,⟨tv,tv⟩⟩⟩ rfl ⟨.inr rfl,.inr rfl,.inr rfl,.inr rfl,.inr rfl,.inr rfl,.inr rfl,.inr rfl,tv⟩ rfl ?_
  refine zn ?_
  refine zv 2 rfl ⟨⟨tv,tv⟩,tv,tv⟩ ?_
  refine ze ?_
  refine TC_ret ?_
  refine TE_frr 500330 rfl ?_
  refine TE_frr 500370 rfl ?_
  refine TE_frh 1038 (.slice (.slice (.int .i32))) rfl rfl rfl ?_
  obtain rfl:=sinj h0
  exact TE_ret env rfl tv ⟨.inr rfl,.inr rfl,tv⟩
theorem subband_Params_swapped.ok0 {K : Nat} {p0 : List (List (List Int))} {p1 : List Int} {q0 : List (List (List Int))} (h0 : subband_Params_swapped K p0 p1 = some q0) : Fn Tryz.prog 76 [.p 0 0,.im (.slice (.slice (.slice (.int .i32)))) p0,.fn 77 []] [(0,some (.cells [.sl 1,.nils,.nils])),(1,some (.rows (.int .i64) p1))] (.im (.slice (.slice (.slice (.int .i32)))) q0) [(0,some (.cells [.sl 1,.nils,.nils])),(1,some (.rows (.int .i64) p1))]:=subband_Params_swapped.ok h0
theorem subband_Params_swapped.fnb : fnb Tryz.prog 76 = true:=fnb_of Tryz.func76 rfl
def quant_Quant.res (_p0 _p1 _p2 : Int) : Int × Int → MV
 | (q0,q1)=>.tup [.int .i64 q0,.int .i64 q1]
def quant_Quant.out (_p0 _p1 _p2 : Int) : Int × Int → List (Nat × Option MObj)
 | (_,_)=>[]
theorem quant_Quant.ok {K : Nat} {p0 p1 p2 : Int} {r : Int × Int} (h0 : quant_Quant K p0 p1 p2 = some r) : Fn Tryz.prog 79 [.int .i32 p0,.int .i64 p1,.int .i64 p2] [] (quant_Quant.res p0 p1 p2 r) (quant_Quant.out p0 p1 p2 r):=by
 refine Fn_of Tryz.func79 rfl (Nat.le_of_ble_eq_true rfl) fun Γ=>?_
 refine zr ?_
 refine zv 2 rfl ⟨tv,tv,tv⟩ ?_
 refine ze ?_
 refine TC_seq ?_
 refine TC_blk ?_
 refine zr ?_
 refine zv 2 rfl ⟨tv,tv,tv⟩ ?_
 obtain ⟨r5,hr,h0⟩:=bnd h0
 refine TL_callB [] (quant_may.ok0 hr) quant_may.fnb rfl ⟨tv,⟨tv,⟨tv,tv⟩⟩⟩ rfl tv rfl ?_
 refine zv 2 rfl ⟨tv,tv,tv⟩ ?_
 refine ze ?_
 refine TC_cond rfl (fun hb=>?_) (fun hb=>?_)
 ·replace h0:=bif_t h0 hb
  refine zr ?_
  refine zv 2 rfl ⟨tv,tv,tv⟩ ?_
  refine ze ?_
  refine TC_ret ?_
  refine tbr ?_
  refine tsr ?_
  obtain rfl:=sinj h0
  exact TE_ret env rfl tv tv
 ·replace h0:=bif_f h0 hb
  refine zr ?_
  refine zv 3 rfl ⟨tv,⟨tv,tv,tv⟩,tv,tv⟩ ?_
  refine ze ?_
  refine TC_cond rfl (fun hb=>?_) (fun hb=>?_)
  ·replace h0:=bif_t h0 hb
   refine zr ?_
   refine zv 2 rfl ⟨tv,tv,tv⟩ ?_
   refine ze ?_
   refine TC_ret ?_
   refine tbr ?_
   refine tsr ?_
   obtain rfl:=sinj h0
   exact TE_ret env rfl tv tv
  ·replace h0:=bif_f h0 hb
   refine TC_skip ?_
   refine tbn ?_
   refine TE_go ?_
   refine TC_seq ?_
   refine TC_renw (A':=[(0,.int .i32 _),(1,.int .i64 _),(2,.int .i64 _)]) (L':=[]) [] ⟨rfl,rfl,rfl,tv⟩ tv rfl ?_
   refine zd [[],[0],[],[2],[3,2],[1,0],[5,4,3,2,1,0]] [[],[],[],[],[],[],[]] [[],[],[],[],[],[],[]] [[],[],[],[],[],[],[]] (by kernel_rfl) (by kernel_rfl) ?_
   refine zj 1 rfl rfl rfl tv ?_
   obtain ⟨g,h0⟩:=gd_t h0
   refine zj 2 rfl rfl rfl ⟨tv,tv,g⟩ ?_
   refine zj 3 rfl rfl rfl tv ?_
   obtain ⟨g,h0⟩:=gd_t h0
   refine zj 4 rfl rfl rfl ⟨tv,tv,g⟩ ?_
   refine zj 5 rfl rfl rfl ⟨tv,tv,tv⟩ ?_
   refine zj 6 rfl rfl rfl tv ?_
   refine zj 7 rfl rfl rfl tv ?_
   refine AJR_end rfl rfl rfl ?_
   refine zg ?_
   refine zv 6 rfl ⟨tv,tv,tv,⟨tv,tv,tv⟩,tv,⟨tv,tv,tv⟩,tv⟩ ?_
   obtain ⟨r11,hr,h0⟩:=bnd h0
   refine TL_callB [] (fix_Clip.ok0 hr) fix_Clip.fnb rfl ⟨tv,⟨tv,⟨tv,⟨tv,tv⟩⟩⟩⟩ rfl tv rfl ?_
   refine zv 1 rfl ⟨tv,tv⟩ ?_
   refine zn ?_
   obtain ⟨g,h0⟩:=gd_t h0
   refine zv 11 rfl ⟨tv,tv,⟨tv,tv,tv⟩,tv,⟨tv,tv,tv⟩,⟨tv,tv,g⟩,tv,⟨tv,tv,tv⟩,⟨tv,tv,(by decide)⟩,tv,tv,tv⟩ ?_
   refine ze ?_
   refine TC_ret ?_
   obtain rfl:=sinj h0
   exact TE_ret env rfl tv tv
theorem quant_Quant.ok0 {K : Nat} {p0 p1 p2 q0 q1 : Int} (h0 : quant_Quant K p0 p1 p2 = some (q0,q1)) : Fn Tryz.prog 79 [.int .i32 p0,.int .i64 p1,.int .i64 p2] [] (.tup [.int .i64 q0,.int .i64 q1]) []:=quant_Quant.ok h0
theorem quant_Quant.fnb : fnb Tryz.prog 79 = true:=fnb_of Tryz.func79 rfl
def subband_Analyse.res (_p0 _p1 _p2 _p3 _p4 _p5 _p6 _p7 _p8 _p9 : Int) (_p10 : List (List (List Int))) : (List Int) × (List (List Int)) × (List (List (List Int))) × Int → MV
 | (q0,q1,q2,q3)=>.tup [.agg [.im (.slice (.int .i64)) q0,.im (.slice (.slice (.int .i64))) q1,.im (.slice (.slice (.slice (.int .i64)))) q2],.int .i64 q3]
def subband_Analyse.out (_p0 _p1 _p2 _p3 _p4 _p5 _p6 _p7 _p8 _p9 : Int) (_p10 : List (List (List Int))) : (List Int) × (List (List Int)) × (List (List (List Int))) × Int → List (Nat × Option MObj)
 | (_,_,_,_)=>[]
theorem subband_Analyse.ok {K : Nat} {p0 p1 p2 p3 p4 p5 p6 p7 p8 p9 : Int} {p10 : List (List (List Int))} {r : (List Int) × (List (List Int)) × (List (List (List Int))) × Int} (h0 : subband_Analyse K p0 p1 p2 p3 p4 p5 p6 p7 p8 p9 p10 = some r) : Fn Tryz.prog 26 [.agg [.int .i64 p0,.int .i64 p1,.int .i64 p2,.int .i64 p3,.int .i64 p4,.int .i64 p5,.int .i64 p6,.int .i64 p7,.int .i64 p8,.int .i64 p9],.im (.slice (.slice (.slice (.int .i32)))) p10] [] (subband_Analyse.res p0 p1 p2 p3 p4 p5 p6 p7 p8 p9 p10 r) (subband_Analyse.out p0 p1 p2 p3 p4 p5 p6 p7 p8 p9 p10 r):=by
 refine Fn_of Tryz.func26 rfl (Nat.le_of_ble_eq_true rfl) fun Γ=>?_
 refine zr ?_
 refine zv 3 rfl ⟨tv,tv,tv,tv⟩ ?_
 refine ze ?_
 refine TC_seq ?_
 refine zr ?_
 refine zv 1 rfl ⟨⟨tv,tv⟩,tv⟩ ?_
 obtain ⟨r262,hr,h0⟩:=bnd h0
 refine TL_callB [] (subband_may.ok0 hr) subband_may.fnb rfl ⟨tv,⟨tv,tv⟩⟩ rfl tv rfl ?_
 refine zv 1 rfl ⟨tv,tv⟩ ?_
 refine zn ?_
 refine zv 2 rfl ⟨tv,⟨tv,tv,tv⟩,tv⟩ ?_
 refine ze ?_
 refine TC_cond rfl (fun hb=>?_) (fun hb=>?_)
 ·replace h0:=bif_t h0 hb
  refine zr ?_
  refine zv 4 rfl ⟨tv,tv,⟨tv,tv⟩,tv,tv⟩ ?_
  refine ze ?_
  refine TC_ret ?_
  refine tsr ?_
  refine TE_imnC 1004 0 (.int .i64) rfl rfl ?_
  refine TE_imnC 1004 1 (.slice (.int .i64)) rfl rfl ?_
  refine TE_imnC 1004 2 (.slice (.slice (.int .i64))) rfl rfl ?_
  obtain rfl:=sinj h0
  exact TE_ret env rfl ⟨tv,tv⟩ tv
 ·replace h0:=bif_f h0 hb
  refine TC_skip ?_
  refine TE_go ?_
  refine TC_seq ?_
  refine zr ?_
  refine zv 2 rfl ⟨⟨tv,tv⟩,tv,tv⟩ ?_
  obtain ⟨r263,hr,h0⟩:=bnd h0
  refine TL_callB [] (subband_fits.ok0 hr) subband_fits.fnb rfl ⟨tv,⟨tv,⟨tv,tv⟩⟩⟩ rfl tv rfl ?_
  refine zv 1 rfl ⟨tv,tv⟩ ?_
  refine ze ?_
  refine TC_cond rfl (fun hb=>?_) (fun hb=>?_)
  ·replace h0:=bif_t h0 hb
   refine zr ?_
   refine zv 3 rfl ⟨tv,⟨tv,tv⟩,tv,tv⟩ ?_
   refine ze ?_
   refine TC_ret ?_
   refine tsr ?_
   refine TE_imnC 1004 0 (.int .i64) rfl rfl ?_
   refine TE_imnC 1004 1 (.slice (.int .i64)) rfl rfl ?_
   refine TE_imnC 1004 2 (.slice (.slice (.int .i64))) rfl rfl ?_
   obtain rfl:=sinj h0
   exact TE_ret env rfl ⟨tv,tv⟩ tv
  ·replace h0:=bif_f h0 hb
   refine TC_skip ?_
   refine zg ?_
   obtain ⟨g,h0⟩:=gd_t h0
   refine zv 6 rfl ⟨tv,⟨tv,tv⟩,⟨tv,tv,g.1,g.2.1,g.2.2⟩,⟨tv,tv⟩,tv,⟨tv,tv⟩,tv⟩ ?_
   refine ze ?_
   refine TC_seq ?_
   refine zr ?_
   refine zv 3 rfl ⟨tv,⟨tv,tv⟩,⟨tv,tv,tv⟩,tv⟩ ?_
   refine ze ?_
   obtain ⟨z1,h1,h0⟩:=bnd h0
   refine TC_cut (α:=(List Int)) (fun s=>z1 = s) (fun s=>[(1,.im (.slice (.slice (.slice (.int .i32)))) p10),(2,.p 20200 0),(4,.p 20201 0),(7,.p 20202 0)]) (fun s=>[(20200,some (.cells [.int .i64 p0,.int .i64 p1,.int .i64 p2,.int .i64 p3,.int .i64 p4,.int .i64 p5,.int .i64 p6,.int .i64 p7,.int .i64 p8,.int .i64 p9])),(20201,some (.cells [.nils,.nils,.nils])),(20202,some (.cells [.sl 20203,.nils,.nils])),(20203,some (.rows (.int .i64) s))]) ?_ ?_
   ·refine TC_cond rfl (fun hb=>?_) (fun hb=>?_)
    ·replace h1:=bif_t h1 hb
     refine TC_seq ?_
     refine TC_renw (A':=[(1,.im (.slice (.slice (.slice (.int .i32)))) _),(2,.p 1002 0),(4,.p 1004 0),(7,.p 1007 0)]) (L':=[(1002,some (.cells [.int .i64 _,.int .i64 _,.int .i64 _,.int .i64 _,.int .i64 _,.int .i64 _,.int .i64 _,.int .i64 _,.int .i64 _,.int .i64 _])),(1004,some (.cells [.nils,.nils,.nils])),(1037,some (.rows (.int .i64) _)),(1007,some (.cells [.sl 1037,.nils,.nils]))]) [] ⟨rfl,rfl,rfl,rfl,tv⟩ ⟨rfl,rfl,rfl,rfl,tv⟩ rfl ?_
     refine zd [[],[0],[1,0],[],[3],[4,3],[5,4,3,2,1,0],[6,5,4,3,2,1,0],[7,6,5,4,3,2,1,0],[7,6,5,4,3,2,1,0],[8,7,6,5,4,3,2,1,0],[10,9,8,7,6,5,4,3,2,1,0]] [[],[],[],[],[],[],[],[],[],[],[],[]] [[],[],[],[],[],[],[],[],[],[],[],[]] [[],[],[],[],[],[],[],[],[],[],[],[]] (by kernel_rfl) (by kernel_rfl) ?_
     refine zj 1 rfl rfl rfl tv ?_
     obtain ⟨g,h1⟩:=gd_t h1
     refine zj 2 rfl rfl rfl ⟨tv,tv,(by decide),g⟩ ?_
     refine zj 3 rfl rfl rfl ⟨tv,tv⟩ ?_
     refine zj 4 rfl rfl rfl tv ?_
     obtain ⟨g,h1⟩:=gd_t h1
     refine zj 5 rfl rfl rfl ⟨tv,tv,(by decide),g⟩ ?_
     refine zj 6 rfl rfl rfl ⟨tv,tv⟩ ?_
     obtain ⟨⟨r1010,r1011⟩,hr,h1⟩:=bnd h1
     refine AJR_call 7 rfl (Nat.le_of_ble_eq_true rfl) [] rfl (quant_Joins.ok0 hr) quant_Joins.fnb rfl ⟨tv,⟨tv,⟨tv,tv⟩⟩⟩ rfl tv rfl ?_
     refine zj 8 rfl rfl rfl tv ?_
     refine zj 9 rfl rfl rfl tv ?_
     refine zj 10 rfl rfl rfl tv ?_
     refine zj 11 rfl rfl rfl tv ?_
     refine zj 12 rfl rfl rfl tv ?_
     refine AJR_end rfl rfl rfl ?_
     refine zg ?_
     refine zv 3 rfl ⟨tv,⟨tv,tv⟩,tv,tv⟩ ?_
     refine ze ?_
     obtain ⟨z2,h2,h1⟩:=bnd h1
     refine TC_cut (α:=(List Int)) (fun s=>z2 = s) (fun s=>[(1,.im (.slice (.slice (.slice (.int .i32)))) p10),(2,.p 45200 0),(4,.p 45201 0),(7,.p 45202 0)]) (fun s=>[(45200,some (.cells [.int .i64 p0,.int .i64 p1,.int .i64 p2,.int .i64 p3,.int .i64 p4,.int .i64 p5,.int .i64 p6,.int .i64 p7,.int .i64 p8,.int .i64 p9])),(45201,some (.cells [.nils,.nils,.nils])),(45202,some (.cells [.sl 45203,.nils,.nils])),(45203,some (.rows (.int .i64) s))]) ?_ ?_
     ·refine TC_blk ?_
      refine TC_loop (α:=Int × (List Int)) (fun n s=>subband_Analyse.l4 K p10 r1010 (r1010.length : Int) p0 p1 p2 p3 p4 p5 p6 p7 p8 p9 n s.1 s.2 = some z2) (fun s=>[(1,.im (.slice (.slice (.slice (.int .i32)))) p10),(2,.p 45500 0),(4,.p 45501 0),(7,.p 45502 0),(52,.im (.slice (.bool)) r1010),(53,.int .i64 (r1010.length : Int)),(54,.int .i64 s.1)]) (fun s=>[(45500,some (.cells [.int .i64 p0,.int .i64 p1,.int .i64 p2,.int .i64 p3,.int .i64 p4,.int .i64 p5,.int .i64 p6,.int .i64 p7,.int .i64 p8,.int .i64 p9])),(45501,some (.cells [.nils,.nils,.nils])),(45502,some (.cells [.sl 45503,.nils,.nils])),(45503,some (.rows (.int .i64) s.2))]) K ?_ ?_
      ·exact SP_ren [(45500,1002),(45501,1004),(45502,1007),(45503,1037)] (_,_) h2 ⟨rfl,rfl,rfl,rfl,rfl,rfl,rfl,tv⟩ ⟨rfl,rfl,rfl,rfl,tv⟩ rfl
      rintro n ⟨x1020,x1021⟩ h2
      rcases n with _ | n
      ·exact (nsome h2).elim
      replace h2 : subband_Analyse.r4 K p10 r1010 (r1010.length : Int) p0 p1 p2 p3 p4 p5 p6 p7 p8 p9 (subband_Analyse.l4 K p10 r1010 (r1010.length : Int) p0 p1 p2 p3 p4 p5 p6 p7 p8 p9 n) x1020 x1021 = some z2:=h2
      refine zr ?_
      refine zv 1 rfl ⟨⟨tv,tv,tv⟩,tv⟩ ?_
      refine ze ?_
      refine TC_seq ?_
      refine TC_cond rfl (fun hb=>?_) (fun hb=>?_)
      ·replace h2:=bif_t h2 hb
       refine TC_skip ?_
       refine TE_go ?_
       refine TC_seq ?_
       obtain ⟨z3,h3,h2⟩:=bnd h2
       refine TC_cut (α:=(List Int)) (fun s=>z3 = s) (fun s=>[(1,.im (.slice (.slice (.slice (.int .i32)))) p10),(2,.p 45800 0),(4,.p 45801 0),(7,.p 45802 0),(52,.im (.slice (.bool)) r1010),(53,.int .i64 (r1010.length : Int)),(54,.int .i64 x1020)]) (fun s=>[(45800,some (.cells [.int .i64 p0,.int .i64 p1,.int .i64 p2,.int .i64 p3,.int .i64 p4,.int .i64 p5,.int .i64 p6,.int .i64 p7,.int .i64 p8,.int .i64 p9])),(45801,some (.cells [.nils,.nils,.nils])),(45802,some (.cells [.sl 45803,.nils,.nils])),(45803,some (.rows (.int .i64) s))]) ?_ ?_
       ·refine TC_blk ?_
        refine zr ?_
        obtain ⟨g,h3⟩:=gd_t h3
        refine zv 5 rfl ⟨tv,⟨tv,tv,g.1,g.2⟩,⟨tv,tv⟩,tv,tv,tv⟩ ?_
        refine zn ?_
        refine zv 1 rfl ⟨tv,tv⟩ ?_
        refine ze ?_
        refine TC_cond rfl (fun hb=>?_) (fun hb=>?_)
        ·replace h3:=bif_t h3 hb
         refine TC_reg ?_
         obtain ⟨g,h3⟩:=gd_t h3
         refine zv 5 rfl ⟨tv,⟨tv,tv⟩,tv,⟨tv,tv,g.1,g.2.1⟩,⟨tv,tv,g.2.2⟩,tv⟩ ?_
         refine TL_end ?_
         refine tbn ?_
         obtain rfl:=sinj h3
         refine tsn ?_
         exact SP_ren [(45800,45500),(45801,45501),(45802,45502),(45803,45503)] _ rfl ⟨rfl,rfl,rfl,rfl,rfl,rfl,rfl,tv⟩ ⟨rfl,rfl,rfl,rfl,tv⟩ rfl
        ·replace h3:=bif_f h3 hb
         refine TC_skip ?_
         refine tbn ?_
         obtain rfl:=sinj h3
         refine tsn ?_
         exact SP_ren [(45800,45500),(45801,45501),(45802,45502),(45803,45503)] _ rfl ⟨rfl,rfl,rfl,rfl,rfl,rfl,rfl,tv⟩ ⟨rfl,rfl,rfl,rfl,tv⟩ rfl
       ·rintro x1026 hz
        obtain rfl:=hz.symm
        refine zt ?_
        refine zv 2 rfl ⟨⟨tv,tv,tv⟩,tv,tv⟩ ?_
        refine zm ?_
        exact TE_nextr [(45500,45800),(45501,45801),(45502,45802),(45503,45803)] n (zs n) (_,_) h2 ⟨rfl,rfl,rfl,rfl,rfl,rfl,rfl,tv⟩ ⟨rfl,rfl,rfl,rfl,tv⟩ rfl
      ·replace h2:=bif_f h2 hb
       refine TC_exit ?_
       refine tsx ?_
       refine tsx ?_
       refine tbe ?_
       obtain rfl:=sinj h2
       refine tsn ?_
       exact SP_ren [(45200,45500),(45201,45501),(45202,45502),(45203,45503)] _ rfl ⟨rfl,rfl,rfl,rfl,tv⟩ ⟨rfl,rfl,rfl,rfl,tv⟩ rfl
     ·rintro x1018 hz
      obtain rfl:=hz.symm
      obtain rfl:=sinj h1
      refine tsn ?_
      exact SP_ren [(20200,45200),(20201,45201),(20202,45202),(20203,45203)] _ rfl ⟨rfl,rfl,rfl,rfl,tv⟩ ⟨rfl,rfl,rfl,rfl,tv⟩ rfl
    ·replace h1:=bif_f h1 hb
     refine TC_skip ?_
     obtain rfl:=sinj h1
     refine tsn ?_
     exact SP_ren [(20200,1002),(20201,1004),(20202,1007),(20203,1037)] _ rfl ⟨rfl,rfl,rfl,rfl,tv⟩ ⟨rfl,rfl,rfl,rfl,tv⟩ rfl
   ·rintro x274 hz
    obtain rfl:=hz.symm
    refine zg ?_
    refine zv 1 rfl ⟨tv,tv⟩ ?_
    obtain ⟨r275,hr,h0⟩:=bnd h0
    refine TL_callB [(0,20202),(1,20203)] (subband_Params_swapped.ok0 hr) subband_Params_swapped.fnb rfl ⟨tv,⟨tv,⟨tv,⟨tv,tv⟩⟩⟩⟩ rfl ⟨.inr rfl,.inr rfl,tv⟩ rfl ?_
    refine zv 1 rfl ⟨tv,tv⟩ ?_
    refine ze ?_
    refine TC_seq ?_
    refine zr ?_
    refine zv 3 rfl ⟨tv,⟨tv,tv⟩,tv,tv⟩ ?_
    refine ze ?_
    obtain ⟨z1,h1,h0⟩:=bnd h0
    refine TC_cut (α:=(List (List Int))) (fun s=>z1 = s) (fun s=>[(1,.im (.slice (.slice (.slice (.int .i32)))) r275),(2,.p 20600 0),(4,.p 20601 0),(7,.p 20602 0)]) (fun s=>[(20600,some (.cells [.int .i64 p0,.int .i64 p1,.int .i64 p2,.int .i64 p3,.int .i64 p4,.int .i64 p5,.int .i64 p6,.int .i64 p7,.int .i64 p8,.int .i64 p9])),(20601,some (.cells [.nils,.nils,.nils])),(20602,some (.cells [.sl 20603,.sl 20604,.nils])),(20603,some (.rows (.int .i64) x274)),(20604,some (.rows (.slice (.int .i64)) s))]) ?_ ?_
    ·refine TC_blk ?_
     refine TC_loop (α:=Int × (List (List Int))) (fun n s=>subband_Analyse.l3 K r275 (r275.length : Int) p0 p1 p2 p3 p4 p5 p6 p7 p8 p9 x274 n s.1 s.2 = some z1) (fun s=>[(1,.im (.slice (.slice (.slice (.int .i32)))) r275),(2,.p 44500 0),(4,.p 44501 0),(7,.p 44502 0),(67,.im (.slice (.slice (.slice (.int .i32)))) r275),(68,.int .i64 (r275.length : Int)),(69,.int .i64 s.1)]) (fun s=>[(44500,some (.cells [.int .i64 p0,.int .i64 p1,.int .i64 p2,.int .i64 p3,.int .i64 p4,.int .i64 p5,.int .i64 p6,.int .i64 p7,.int .i64 p8,.int .i64 p9])),(44501,some (.cells [.nils,.nils,.nils])),(44502,some (.cells [.sl 44503,.sl 44504,.nils])),(44503,some (.rows (.int .i64) x274)),(44504,some (.rows (.slice (.int .i64)) s.2))]) K ?_ ?_
     ·refine TE_ownC 20202 1 1304041 (.slice (.int .i64)) rfl rfl (by decide) rfl rfl ?_
      exact SP_ren [(44500,20200),(44501,20201),(44502,20202),(44503,20203),(44504,1304041)] (_,_) h1 ⟨rfl,rfl,rfl,rfl,rfl,rfl,rfl,tv⟩ ⟨rfl,rfl,rfl,rfl,rfl,tv⟩ rfl
     rintro n ⟨x992,x993⟩ h1
     rcases n with _ | n
     ·exact (nsome h1).elim
     replace h1 : subband_Analyse.r3 K r275 (r275.length : Int) p0 p1 p2 p3 p4 p5 p6 p7 p8 p9 x274 (subband_Analyse.l3 K r275 (r275.length : Int) p0 p1 p2 p3 p4 p5 p6 p7 p8 p9 x274 n) x992 x993 = some z1:=h1
     refine zr ?_
     refine zv 1 rfl ⟨⟨tv,tv,tv⟩,tv⟩ ?_
     refine ze ?_
     refine TC_seq ?_
     refine TC_cond rfl (fun hb=>?_) (fun hb=>?_)
     ·replace h1:=bif_t h1 hb
      refine TC_skip ?_
      refine TE_go ?_
      refine TC_seq ?_
      refine TC_blk ?_
      refine zr ?_
      obtain ⟨g,h1⟩:=gd_t h1
      refine zv 3 rfl ⟨⟨tv,tv,g.1,g.2⟩,⟨tv,tv⟩,tv,tv⟩ ?_
      refine zn ?_
      refine zv 1 rfl ⟨tv,tv⟩ ?_
      obtain ⟨⟨r1004,r1005⟩,hr,h1⟩:=bnd h1
      refine TL_callB [] (quant_Scales.ok0 hr) quant_Scales.fnb rfl ⟨tv,⟨tv,tv⟩⟩ rfl tv rfl ?_
      refine zv 5 rfl ⟨tv,tv,tv,tv,tv,tv⟩ ?_
      refine ze ?_
      refine TC_reg ?_
      obtain ⟨g,h1⟩:=gd_t h1
      refine zv 7 rfl ⟨tv,⟨tv,tv⟩,tv,⟨tv,tv⟩,⟨⟨tv,tv,tv⟩,g⟩,tv,⟨tv,tv⟩,tv⟩ ?_
      refine TL_end ?_
      refine tbn ?_
      refine zt ?_
      refine zv 2 rfl ⟨⟨tv,tv,tv⟩,tv,tv⟩ ?_
      refine zm ?_
      exact TE_nextr [(44500,44500),(44501,44501),(44502,44502),(44503,44503),(44504,1082)] n (zs n) (_,_) h1 ⟨rfl,rfl,rfl,rfl,rfl,rfl,rfl,tv⟩ ⟨rfl,rfl,rfl,rfl,rfl,tv⟩ rfl
     ·replace h1:=bif_f h1 hb
      refine TC_exit ?_
      refine tsx ?_
      refine tsx ?_
      refine tbe ?_
      obtain rfl:=sinj h1
      refine tsn ?_
      exact SP_ren [(20600,44500),(20601,44501),(20602,44502),(20603,44503),(20604,44504)] _ rfl ⟨rfl,rfl,rfl,rfl,tv⟩ ⟨rfl,rfl,rfl,rfl,rfl,tv⟩ rfl
    ·rintro x288 hz
     obtain rfl:=hz.symm
     refine zg ?_
     refine zv 3 rfl ⟨⟨tv,tv⟩,tv,⟨tv,tv⟩,tv⟩ ?_
     refine TL_frz 20604 rfl ?_
     obtain ⟨⟨r289,r290⟩,hr,h0⟩:=bnd h0
     refine TL_callB [] (alloc_Share.ok0 hr) alloc_Share.fnb rfl ⟨tv,⟨tv,⟨tv,tv⟩⟩⟩ rfl tv rfl ?_
     refine zv 5 rfl ⟨tv,tv,tv,tv,tv,tv⟩ ?_
     refine zn ?_
     refine zv 2 rfl ⟨tv,⟨tv,tv⟩,tv⟩ ?_
     obtain ⟨g,h0⟩:=gd_t h0
     refine TL_ev envD 1 rfl ⟨⟨tv,⟨tv,⟨g.1,⟨g.2.1,g.2.2⟩⟩⟩⟩,tv⟩ ?_
     refine zv 2 rfl ⟨tv,⟨tv,tv⟩,tv⟩ ?_
     refine ze ?_
     refine TC_seq ?_
     refine zr ?_
     refine zv 4 rfl ⟨tv,⟨tv,tv⟩,⟨tv,tv⟩,tv,tv⟩ ?_
     refine ze ?_
     obtain ⟨z1,h1,h0⟩:=bnd h0
     refine TC_cut (α:=(List (List (List Int)))) (fun s=>z1 = s) (fun s=>[(4,.p 29000 0),(7,.p 29001 0)]) (fun s=>[(29000,some (.cells [.nils,.nils,.nils])),(29001,some (.cells [.sl 29002,.im (.slice (.slice (.int .i64))) x288,.sl 29003])),(29002,some (.rows (.int .i64) x274)),(29003,some (.rows (.slice (.slice (.int .i64))) s))]) ?_ ?_
     ·refine TC_blk ?_
      refine TC_loop (α:=Int × (List (List (List Int)))) (fun n s=>subband_Analyse.l0 K r275 r289 ((List.replicate (Int.toNat p4) ([] : List (List Int))).length : Int) p0 p1 p2 p3 p4 p5 p6 p7 p8 p9 x288 x274 n s.1 s.2 = some z1) (fun s=>[(1,.im (.slice (.slice (.slice (.int .i32)))) r275),(2,.p 33200 0),(4,.p 33201 0),(7,.p 33202 0),(16,.im (.slice (.slice (.int .i64))) r289),(98,.int .i64 ((List.replicate (Int.toNat p4) ([] : List (List Int))).length : Int)),(99,.int .i64 s.1)]) (fun s=>[(33200,some (.cells [.int .i64 p0,.int .i64 p1,.int .i64 p2,.int .i64 p3,.int .i64 p4,.int .i64 p5,.int .i64 p6,.int .i64 p7,.int .i64 p8,.int .i64 p9])),(33201,some (.cells [.nils,.nils,.nils])),(33202,some (.cells [.sl 33203,.im (.slice (.slice (.int .i64))) x288,.sl 33204])),(33203,some (.rows (.int .i64) x274)),(33204,some (.rows (.slice (.slice (.int .i64))) s.2))]) K ?_ ?_
      ·exact SP_ren [(33200,20600),(33201,20601),(33202,20602),(33203,20603),(33204,1094)] (_,_) h1 ⟨rfl,rfl,rfl,rfl,rfl,rfl,rfl,tv⟩ ⟨rfl,rfl,rfl,rfl,rfl,tv⟩ rfl
      rintro n ⟨x640,x641⟩ h1
      rcases n with _ | n
      ·exact (nsome h1).elim
      replace h1 : subband_Analyse.r0 K r275 r289 ((List.replicate (Int.toNat p4) ([] : List (List Int))).length : Int) p0 p1 p2 p3 p4 p5 p6 p7 p8 p9 x288 x274 (subband_Analyse.l0 K r275 r289 ((List.replicate (Int.toNat p4) ([] : List (List Int))).length : Int) p0 p1 p2 p3 p4 p5 p6 p7 p8 p9 x288 x274 n) x640 x641 = some z1:=h1
      refine zr ?_
      refine zv 1 rfl ⟨⟨tv,tv,tv⟩,tv⟩ ?_
      refine ze ?_
      refine TC_seq ?_
      refine TC_cond rfl (fun hb=>?_) (fun hb=>?_)
      ·replace h1:=bif_t h1 hb
       refine TC_skip ?_
       refine TE_go ?_
       refine TC_seq ?_
       refine TC_blk ?_
       refine zr ?_
       refine zv 2 rfl ⟨tv,tv,tv⟩ ?_
       refine ze ?_
       refine TC_seq ?_
       refine TC_renw (A':=[(1,.im (.slice (.slice (.slice (.int .i32)))) _),(2,.p 33200 0),(4,.p 33201 0),(7,.p 33202 0),(16,.im (.slice (.slice (.int .i64))) _),(18,.int .i64 _),(98,.int .i64 _),(99,.int .i64 _)]) (L':=[(33200,some (.cells [.int .i64 _,.int .i64 _,.int .i64 _,.int .i64 _,.int .i64 _,.int .i64 _,.int .i64 _,.int .i64 _,.int .i64 _,.int .i64 _])),(33201,some (.cells [.nils,.nils,.nils])),(33202,some (.cells [.sl 33203,.im (.slice (.slice (.int .i64))) _,.sl 33204])),(33203,some (.rows (.int .i64) _)),(33204,some (.rows (.slice (.slice (.int .i64))) _))]) [] ⟨rfl,rfl,rfl,rfl,rfl,rfl,rfl,rfl,tv⟩ ⟨rfl,rfl,rfl,rfl,rfl,tv⟩ rfl ?_
       refine zd [[],[0],[],[],[3],[4,3],[5,4,3,2,1,0],[6,5,4,3,2,1,0]] [[],[],[],[],[],[1107],[],[33204]] [[],[],[],[],[],[1107],[],[]] [[1107],[1107],[1107],[],[],[],[],[]] (by kernel_rfl) (by kernel_rfl) ?_
       refine zj 1 rfl rfl rfl tv ?_
       refine zj 2 rfl rfl rfl ⟨tv,tv⟩ ?_
       refine zj 3 rfl rfl rfl tv ?_
       refine zj 4 rfl rfl rfl tv ?_
       refine zj 5 rfl rfl rfl ⟨tv,tv⟩ ?_
       obtain ⟨g,h1⟩:=gd_t h1
       refine zj 6 rfl rfl rfl ⟨tv,tv,g.1,g.2.1,g.2.2⟩ ?_
       obtain ⟨g,h1⟩:=gd_t h1
       refine zj 7 rfl rfl rfl ⟨tv,tv,g.1,g.2⟩ ?_
       obtain ⟨g,h1⟩:=gd_t h1
       refine zj 8 rfl rfl rfl ⟨tv,tv,g⟩ ?_
       refine AJR_end rfl rfl rfl ?_
       refine zg ?_
       refine zv 3 rfl ⟨tv,⟨tv,tv⟩,tv,tv⟩ ?_
       refine ze ?_
       obtain ⟨z2,h2,h1⟩:=bnd h1
       refine TC_cut (α:=(List (List Int))) (fun s=>z2 = s) (fun s=>[(1,.im (.slice (.slice (.slice (.int .i32)))) r275),(2,.p 41300 0),(4,.p 41301 0),(7,.p 41302 0),(16,.im (.slice (.slice (.int .i64))) r289),(98,.int .i64 ((List.replicate (Int.toNat p4) ([] : List (List Int))).length : Int)),(99,.int .i64 x640)]) (fun s=>[(41300,some (.cells [.int .i64 p0,.int .i64 p1,.int .i64 p2,.int .i64 p3,.int .i64 p4,.int .i64 p5,.int .i64 p6,.int .i64 p7,.int .i64 p8,.int .i64 p9])),(41301,some (.cells [.nils,.nils,.nils])),(41302,some (.cells [.sl 41303,.im (.slice (.slice (.int .i64))) x288,.sl 41304])),(41303,some (.rows (.int .i64) x274)),(41304,some (.rr false (.slice (.int .i64)) x641 (some ((Int.toNat x640),.sl 41305)))),(41305,some (.rr true (.int .i64) s none))]) ?_ ?_
       ·refine TC_blk ?_
        refine TC_loop (α:=Int × (List (List Int))) (fun n s=>subband_Analyse.l1 K r275 r289 x640 ((List.replicate (Int.toNat p4) ([] : List (List Int))).length : Int) (r275.length : Int) p0 p1 p2 p3 p4 p5 p6 p7 p8 p9 x288 x274 x641 (Int.toNat x640) n s.1 s.2 = some z2) (fun s=>[(1,.im (.slice (.slice (.slice (.int .i32)))) r275),(2,.p 42300 0),(4,.p 42301 0),(7,.p 42302 0),(16,.im (.slice (.slice (.int .i64))) r289),(18,.int .i64 x640),(98,.int .i64 ((List.replicate (Int.toNat p4) ([] : List (List Int))).length : Int)),(99,.int .i64 x640),(110,.int .i64 (r275.length : Int)),(111,.int .i64 s.1)]) (fun s=>[(42300,some (.cells [.int .i64 p0,.int .i64 p1,.int .i64 p2,.int .i64 p3,.int .i64 p4,.int .i64 p5,.int .i64 p6,.int .i64 p7,.int .i64 p8,.int .i64 p9])),(42301,some (.cells [.nils,.nils,.nils])),(42302,some (.cells [.sl 42303,.im (.slice (.slice (.int .i64))) x288,.sl 42304])),(42303,some (.rows (.int .i64) x274)),(42304,some (.rr false (.slice (.int .i64)) x641 (some ((Int.toNat x640),.sl 42305)))),(42305,some (.rr true (.int .i64) s.2 none))]) K ?_ ?_
        ·exact SP_ren [(42300,33200),(42301,33201),(42302,33202),(42303,33203),(42304,33204),(42305,1107)] (_,_) h2 ⟨rfl,rfl,rfl,rfl,rfl,rfl,rfl,rfl,rfl,rfl,tv⟩ ⟨rfl,rfl,rfl,rfl,rfl,rfl,tv⟩ rfl
        rintro n ⟨x901,x902⟩ h2
        rcases n with _ | n
        ·exact (nsome h2).elim
        replace h2 : subband_Analyse.r1 K r275 r289 x640 ((List.replicate (Int.toNat p4) ([] : List (List Int))).length : Int) (r275.length : Int) p0 p1 p2 p3 p4 p5 p6 p7 p8 p9 x288 x274 x641 (Int.toNat x640) (subband_Analyse.l1 K r275 r289 x640 ((List.replicate (Int.toNat p4) ([] : List (List Int))).length : Int) (r275.length : Int) p0 p1 p2 p3 p4 p5 p6 p7 p8 p9 x288 x274 x641 (Int.toNat x640) n) x901 x902 = some z2:=h2
        refine zr ?_
        refine zv 1 rfl ⟨⟨tv,tv,tv⟩,tv⟩ ?_
        refine ze ?_
        refine TC_seq ?_
        refine TC_cond rfl (fun hb=>?_) (fun hb=>?_)
        ·replace h2:=bif_t h2 hb
         refine TC_skip ?_
         refine TE_go ?_
         refine TC_seq ?_
         refine TC_blk ?_
         refine zr ?_
         refine zv 2 rfl ⟨tv,tv,tv⟩ ?_
         refine zn ?_
         obtain ⟨g,h2⟩:=gd_t h2
         refine zv 9 rfl ⟨tv,tv,⟨tv,tv,g.1,g.2.1⟩,⟨tv,tv⟩,tv,⟨tv,tv,g.2.2.1,g.2.2.2⟩,⟨tv,tv⟩,⟨tv,tv⟩,tv,tv⟩ ?_
         refine ze ?_
         obtain ⟨z3,h3,h2⟩:=bnd h2
         refine TC_cut (α:=(List (List Int))) (fun s=>z3 = s) (fun s=>[(1,.im (.slice (.slice (.slice (.int .i32)))) r275),(2,.p 44000 0),(4,.p 44001 0),(7,.p 44002 0),(16,.im (.slice (.slice (.int .i64))) r289),(18,.int .i64 x640),(98,.int .i64 ((List.replicate (Int.toNat p4) ([] : List (List Int))).length : Int)),(99,.int .i64 x640),(110,.int .i64 (r275.length : Int)),(111,.int .i64 x901)]) (fun s=>[(44000,some (.cells [.int .i64 p0,.int .i64 p1,.int .i64 p2,.int .i64 p3,.int .i64 p4,.int .i64 p5,.int .i64 p6,.int .i64 p7,.int .i64 p8,.int .i64 p9])),(44001,some (.cells [.nils,.nils,.nils])),(44002,some (.cells [.sl 44003,.im (.slice (.slice (.int .i64))) x288,.sl 44004])),(44003,some (.rows (.int .i64) x274)),(44004,some (.rr false (.slice (.int .i64)) x641 (some ((Int.toNat x640),.sl 44005)))),(44005,some (.rr true (.int .i64) s none))]) ?_ ?_
         ·refine TC_blk ?_
          refine TC_loop (α:=Int × (List (List Int))) (fun n s=>subband_Analyse.l2 K r275 r289 x640 x901 ((List.replicate (Int.toNat p4) ([] : List (List Int))).length : Int) (r275.length : Int) (Kd.nth (.slice (.int .i32)) (Kd.nth (.slice (.slice (.int .i32))) r275 (Int.toNat x901)) (Int.toNat x640)) ((Kd.nth (.slice (.int .i32)) (Kd.nth (.slice (.slice (.int .i32))) r275 (Int.toNat x901)) (Int.toNat x640)).length : Int) p0 p1 p2 p3 p4 p5 p6 p7 p8 p9 x288 x274 x641 (Int.toNat x640) n s.1 s.2 = some z3) (fun s=>[(1,.im (.slice (.slice (.slice (.int .i32)))) r275),(2,.p 44200 0),(4,.p 44201 0),(7,.p 44202 0),(16,.im (.slice (.slice (.int .i64))) r289),(18,.int .i64 x640),(19,.int .i64 x901),(98,.int .i64 ((List.replicate (Int.toNat p4) ([] : List (List Int))).length : Int)),(99,.int .i64 x640),(110,.int .i64 (r275.length : Int)),(111,.int .i64 x901),(120,.im (.slice (.int .i32)) (Kd.nth (.slice (.int .i32)) (Kd.nth (.slice (.slice (.int .i32))) r275 (Int.toNat x901)) (Int.toNat x640))),(121,.int .i64 ((Kd.nth (.slice (.int .i32)) (Kd.nth (.slice (.slice (.int .i32))) r275 (Int.toNat x901)) (Int.toNat x640)).length : Int)),(122,.int .i64 s.1)]) (fun s=>[(44200,some (.cells [.int .i64 p0,.int .i64 p1,.int .i64 p2,.int .i64 p3,.int .i64 p4,.int .i64 p5,.int .i64 p6,.int .i64 p7,.int .i64 p8,.int .i64 p9])),(44201,some (.cells [.nils,.nils,.nils])),(44202,some (.cells [.sl 44203,.im (.slice (.slice (.int .i64))) x288,.sl 44204])),(44203,some (.rows (.int .i64) x274)),(44204,some (.rr false (.slice (.int .i64)) x641 (some ((Int.toNat x640),.sl 44205)))),(44205,some (.rr true (.int .i64) s.2 none))]) K ?_ ?_
          ·exact SP_ren [(44200,42300),(44201,42301),(44202,42302),(44203,42303),(44204,42304),(44205,42305)] (_,_) h3 ⟨rfl,rfl,rfl,rfl,rfl,rfl,rfl,rfl,rfl,rfl,rfl,rfl,rfl,rfl,tv⟩ ⟨rfl,rfl,rfl,rfl,rfl,rfl,tv⟩ rfl
          rintro n ⟨x966,x967⟩ h3
          rcases n with _ | n
          ·exact (nsome h3).elim
          replace h3 : subband_Analyse.r2 K r275 r289 x640 x901 ((List.replicate (Int.toNat p4) ([] : List (List Int))).length : Int) (r275.length : Int) (Kd.nth (.slice (.int .i32)) (Kd.nth (.slice (.slice (.int .i32))) r275 (Int.toNat x901)) (Int.toNat x640)) ((Kd.nth (.slice (.int .i32)) (Kd.nth (.slice (.slice (.int .i32))) r275 (Int.toNat x901)) (Int.toNat x640)).length : Int) p0 p1 p2 p3 p4 p5 p6 p7 p8 p9 x288 x274 x641 (Int.toNat x640) (subband_Analyse.l2 K r275 r289 x640 x901 ((List.replicate (Int.toNat p4) ([] : List (List Int))).length : Int) (r275.length : Int) (Kd.nth (.slice (.int .i32)) (Kd.nth (.slice (.slice (.int .i32))) r275 (Int.toNat x901)) (Int.toNat x640)) ((Kd.nth (.slice (.int .i32)) (Kd.nth (.slice (.slice (.int .i32))) r275 (Int.toNat x901)) (Int.toNat x640)).length : Int) p0 p1 p2 p3 p4 p5 p6 p7 p8 p9 x288 x274 x641 (Int.toNat x640) n) x966 x967 = some z3:=h3
          refine zr ?_
          refine zv 1 rfl ⟨⟨tv,tv,tv⟩,tv⟩ ?_
          refine ze ?_
          refine TC_seq ?_
          refine TC_cond rfl (fun hb=>?_) (fun hb=>?_)
          ·replace h3:=bif_t h3 hb
           refine TC_skip ?_
           refine TE_go ?_
           refine TC_seq ?_
           refine TC_blk ?_
           refine zr ?_
           obtain ⟨g,h3⟩:=gd_t h3
           refine zv 5 rfl ⟨tv,⟨tv,tv,g.1,g.2⟩,⟨tv,tv⟩,tv,tv,tv⟩ ?_
           refine ze ?_
           refine TC_seq ?_
           refine TC_renw (A':=[(1,.im (.slice (.slice (.slice (.int .i32)))) _),(2,.p 44200 0),(4,.p 44201 0),(7,.p 44202 0),(16,.im (.slice (.slice (.int .i64))) _),(18,.int .i64 _),(19,.int .i64 _),(20,.int .i64 _),(21,.int .i32 _),(98,.int .i64 _),(99,.int .i64 _),(110,.int .i64 _),(111,.int .i64 _),(120,.im (.slice (.int .i32)) _),(121,.int .i64 _),(122,.int .i64 _)]) (L':=[(44200,some (.cells [.int .i64 _,.int .i64 _,.int .i64 _,.int .i64 _,.int .i64 _,.int .i64 _,.int .i64 _,.int .i64 _,.int .i64 _,.int .i64 _])),(44201,some (.cells [.nils,.nils,.nils])),(44202,some (.cells [.sl 44203,.im (.slice (.slice (.int .i64))) _,.sl 44204])),(44203,some (.rows (.int .i64) _)),(44204,some (.rr false (.slice (.int .i64)) _ (some (_,.sl 44205)))),(44205,some (.rr true (.int .i64) _ none))]) [] ⟨rfl,rfl,rfl,rfl,rfl,rfl,rfl,rfl,rfl,rfl,rfl,rfl,rfl,rfl,rfl,rfl,tv⟩ ⟨rfl,rfl,rfl,rfl,rfl,rfl,tv⟩ rfl ?_
           refine zd [[],[],[1],[],[3,2,1],[4,3,2,1],[],[6,5,4,3,2,1],[7,6,5,4,3,2,1],[],[],[10,9],[11,10,9],[],[13,12,11,10,9],[14,13,12,11,10,9],[15,14,13,12,11,10,9,8,7,6,5,4,3,2,1,0],[16,15,14,13,12,11,10,9,8,7,6,5,4,3,2,1,0],[17,16,15,14,13,12,11,10,9,8,7,6,5,4,3,2,1,0],[17,16,15,14,13,12,11,10,9,8,7,6,5,4,3,2,1,0],[18,17,16,15,14,13,12,11,10,9,8,7,6,5,4,3,2,1,0],[20,19,18,17,16,15,14,13,12,11,10,9,8,7,6,5,4,3,2,1,0]] [[],[],[],[],[],[],[],[],[],[],[],[],[],[],[],[],[],[],[],[],[],[]] [[],[],[],[],[],[],[],[],[],[],[],[],[],[],[],[],[],[],[],[],[],[]] [[],[],[],[],[],[],[],[],[],[],[],[],[],[],[],[],[],[],[],[],[],[]] (by kernel_rfl) (by kernel_rfl) ?_
           refine zj 1 rfl rfl rfl tv ?_
           refine zj 2 rfl rfl rfl tv ?_
           refine zj 3 rfl rfl rfl ⟨tv,tv⟩ ?_
           refine zj 4 rfl rfl rfl tv ?_
           obtain ⟨g,h3⟩:=gd_t h3
           refine zj 5 rfl rfl rfl ⟨tv,tv,g.1,g.2⟩ ?_
           refine zj 6 rfl rfl rfl ⟨tv,tv⟩ ?_
           refine zj 7 rfl rfl rfl tv ?_
           obtain ⟨g,h3⟩:=gd_t h3
           refine zj 8 rfl rfl rfl ⟨tv,tv,g.1,g.2⟩ ?_
           refine zj 9 rfl rfl rfl ⟨tv,tv⟩ ?_
           refine zj 10 rfl rfl rfl tv ?_
           refine zj 11 rfl rfl rfl tv ?_
           obtain ⟨g,h3⟩:=gd_t h3
           refine zj 12 rfl rfl rfl ⟨tv,tv,g.1,g.2⟩ ?_
           refine zj 13 rfl rfl rfl ⟨tv,tv⟩ ?_
           refine zj 14 rfl rfl rfl tv ?_
           obtain ⟨g,h3⟩:=gd_t h3
           refine zj 15 rfl rfl rfl ⟨tv,tv,g.1,g.2⟩ ?_
           refine zj 16 rfl rfl rfl ⟨tv,tv⟩ ?_
           obtain ⟨⟨r982,r983⟩,hr,h3⟩:=bnd h3
           refine AJR_call 17 rfl (Nat.le_of_ble_eq_true rfl) [] rfl (quant_Quant.ok0 hr) quant_Quant.fnb rfl ⟨tv,⟨tv,⟨tv,⟨tv,tv⟩⟩⟩⟩ rfl tv rfl ?_
           refine zj 18 rfl rfl rfl tv ?_
           refine zj 19 rfl rfl rfl tv ?_
           refine zj 20 rfl rfl rfl tv ?_
           refine zj 21 rfl rfl rfl tv ?_
           refine zj 22 rfl rfl rfl tv ?_
           refine AJR_end rfl rfl rfl ?_
           refine TE_go ?_
           refine TC_renw (A':=[(1,.im (.slice (.slice (.slice (.int .i32)))) _),(2,.p 44200 0),(4,.p 44201 0),(7,.p 44202 0),(16,.im (.slice (.slice (.int .i64))) _),(18,.int .i64 _),(19,.int .i64 _),(22,.int .i64 _),(98,.int .i64 _),(99,.int .i64 _),(110,.int .i64 _),(111,.int .i64 _),(120,.im (.slice (.int .i32)) _),(121,.int .i64 _),(122,.int .i64 _)]) (L':=[(44200,some (.cells [.int .i64 _,.int .i64 _,.int .i64 _,.int .i64 _,.int .i64 _,.int .i64 _,.int .i64 _,.int .i64 _,.int .i64 _,.int .i64 _])),(44201,some (.cells [.nils,.nils,.nils])),(44202,some (.cells [.sl 44203,.im (.slice (.slice (.int .i64))) _,.sl 44204])),(44203,some (.rows (.int .i64) _)),(44204,some (.rr false (.slice (.int .i64)) _ (some (_,.sl 44205)))),(44205,some (.rr true (.int .i64) _ none))]) [] ⟨rfl,rfl,rfl,rfl,rfl,rfl,rfl,rfl,rfl,rfl,rfl,rfl,rfl,rfl,rfl,tv⟩ ⟨rfl,rfl,rfl,rfl,rfl,rfl,tv⟩ rfl ?_
           refine zd [[],[0],[],[2,1,0],[3,2,1,0],[],[],[6],[],[8,7,6],[9,8,7,6],[],[11,10,9,8,7,6],[12,11,10,9,8,7,6],[],[14],[15,14,13,12,11,10,9,8,7,6],[16,15,14,13,12,11,10,9,8,7,6,5,4,3,2,1,0],[17,16,15,14,13,12,11,10,9,8,7,6,5,4,3,2,1,0]] [[],[],[],[],[],[],[],[],[],[],[],[],[],[1160,44205],[],[1162],[1160,1163],[],[1163,44205]] [[],[],[],[],[],[],[],[],[],[],[],[],[],[1160],[],[1162],[1163],[],[]] [[1160,1162,1163,44205],[1160,1162,1163,44205],[1160,1162,1163,44205],[1160,1162,1163,44205],[1160,1162,1163,44205],[1160,1162,1163,44205],[1162],[1162],[1162],[1162],[1162],[1162],[1162],[1162],[1160,44205],[1160,44205],[],[],[]] (by kernel_rfl) (by kernel_rfl) ?_
           refine zj 1 rfl rfl rfl tv ?_
           refine zj 2 rfl rfl rfl ⟨tv,tv⟩ ?_
           refine zj 3 rfl rfl rfl tv ?_
           obtain ⟨g,h3⟩:=gd_t h3
           refine zj 4 rfl rfl rfl ⟨tv,tv,g.1,g.2⟩ ?_
           refine zj 5 rfl rfl rfl ⟨tv,rfl⟩ ?_
           refine zj 6 rfl rfl rfl tv ?_
           refine zj 7 rfl rfl rfl tv ?_
           refine zj 8 rfl rfl rfl ⟨tv,tv⟩ ?_
           refine zj 9 rfl rfl rfl tv ?_
           obtain ⟨g,h3⟩:=gd_t h3
           refine zj 10 rfl rfl rfl ⟨tv,tv,g.1,g.2⟩ ?_
           refine zj 11 rfl rfl rfl ⟨tv,rfl⟩ ?_
           refine zj 12 rfl rfl rfl tv ?_
           obtain ⟨g,h3⟩:=gd_t h3
           refine zj 13 rfl rfl rfl ⟨tv,tv,g.1,g.2⟩ ?_
           obtain ⟨g,h3⟩:=gd_t h3
           refine zj 14 rfl rfl rfl ⟨tv,g⟩ ?_
           refine zj 15 rfl rfl rfl tv ?_
           refine zj 16 rfl rfl rfl ⟨tv,tv⟩ ?_
           obtain ⟨g,h3⟩:=gd_t h3
           refine zj 17 rfl rfl rfl ⟨⟨tv,tv,tv⟩,g⟩ ?_
           obtain ⟨g,h3⟩:=gd_t h3
           refine zj 18 rfl rfl rfl ⟨tv,tv,g.1,g.2⟩ ?_
           obtain ⟨g,h3⟩:=gd_t h3
           refine zj 19 rfl rfl rfl ⟨tv,tv,g,rfl⟩ ?_
           refine AJR_end rfl rfl rfl ?_
           refine tbn ?_
           refine zt ?_
           refine zv 2 rfl ⟨⟨tv,tv,tv⟩,tv,tv⟩ ?_
           refine zm ?_
           exact TE_nextr [(44200,44200),(44201,44201),(44202,44202),(44203,44203),(44204,44204),(44205,44205)] n (zs n) (_,_) h3 ⟨rfl,rfl,rfl,rfl,rfl,rfl,rfl,rfl,rfl,rfl,rfl,rfl,rfl,rfl,tv⟩ ⟨rfl,rfl,rfl,rfl,rfl,rfl,tv⟩ rfl
          ·replace h3:=bif_f h3 hb
           refine TC_exit ?_
           refine tsx ?_
           refine tsx ?_
           refine tbe ?_
           obtain rfl:=sinj h3
           refine tsn ?_
           exact SP_ren [(44000,44200),(44001,44201),(44002,44202),(44003,44203),(44004,44204),(44005,44205)] _ rfl ⟨rfl,rfl,rfl,rfl,rfl,rfl,rfl,rfl,rfl,rfl,tv⟩ ⟨rfl,rfl,rfl,rfl,rfl,rfl,tv⟩ rfl
         ·rintro x960 hz
          obtain rfl:=hz.symm
          refine tbn ?_
          refine zt ?_
          refine zv 2 rfl ⟨⟨tv,tv,tv⟩,tv,tv⟩ ?_
          refine zm ?_
          exact TE_nextr [(42300,44000),(42301,44001),(42302,44002),(42303,44003),(42304,44004),(42305,44005)] n (zs n) (_,_) h2 ⟨rfl,rfl,rfl,rfl,rfl,rfl,rfl,rfl,rfl,rfl,tv⟩ ⟨rfl,rfl,rfl,rfl,rfl,rfl,tv⟩ rfl
        ·replace h2:=bif_f h2 hb
         refine TC_exit ?_
         refine tsx ?_
         refine tsx ?_
         refine tbe ?_
         obtain rfl:=sinj h2
         refine tsn ?_
         exact SP_ren [(41300,42300),(41301,42301),(41302,42302),(41303,42303),(41304,42304),(41305,42305)] _ rfl ⟨rfl,rfl,rfl,rfl,rfl,rfl,rfl,tv⟩ ⟨rfl,rfl,rfl,rfl,rfl,rfl,tv⟩ rfl
       ·rintro x873 hz
        obtain rfl:=hz.symm
        refine tbn ?_
        refine zt ?_
        refine zv 2 rfl ⟨⟨tv,tv,tv⟩,tv,tv⟩ ?_
        refine zm ?_
        refine TE_frr 41305 rfl ?_
        refine TE_unh 41304 rfl ?_
        exact TE_nextr [(33200,41300),(33201,41301),(33202,41302),(33203,41303),(33204,41304)] n (zs n) (_,_) h1 ⟨rfl,rfl,rfl,rfl,rfl,rfl,rfl,tv⟩ ⟨rfl,rfl,rfl,rfl,rfl,tv⟩ rfl
      ·replace h1:=bif_f h1 hb
       refine TC_exit ?_
       refine tsx ?_
       refine tsx ?_
       refine tbe ?_
       obtain rfl:=sinj h1
       refine tsn ?_
       exact SP_ren [(29000,33201),(29001,33202),(29002,33203),(29003,33204)] _ rfl ⟨rfl,rfl,tv⟩ ⟨rfl,rfl,rfl,rfl,tv⟩ rfl
     ·rintro x525 hz
      obtain rfl:=hz.symm
      refine zg ?_
      refine zv 3 rfl ⟨⟨tv,tv⟩,⟨tv,tv⟩,tv,tv⟩ ?_
      refine ze ?_
      refine TC_ret ?_
      refine TE_frz 29002 rfl ?_
      refine TE_frz 29003 rfl ?_
      obtain rfl:=sinj h0
      exact TE_ret env rfl ⟨tv,tv⟩ tv
theorem subband_Analyse.ok0 {K : Nat} {p0 p1 p2 p3 p4 p5 p6 p7 p8 p9 : Int} {p10 : List (List (List Int))} {q0 : List Int} {q1 : List (List Int)} {q2 : List (List (List Int))} {q3 : Int} (h0 : subband_Analyse K p0 p1 p2 p3 p4 p5 p6 p7 p8 p9 p10 = some (q0,q1,q2,q3)) : Fn Tryz.prog 26 [.agg [.int .i64 p0,.int .i64 p1,.int .i64 p2,.int .i64 p3,.int .i64 p4,.int .i64 p5,.int .i64 p6,.int .i64 p7,.int .i64 p8,.int .i64 p9],.im (.slice (.slice (.slice (.int .i32)))) p10] [] (.tup [.agg [.im (.slice (.int .i64)) q0,.im (.slice (.slice (.int .i64))) q1,.im (.slice (.slice (.slice (.int .i64)))) q2],.int .i64 q3]) []:=subband_Analyse.ok h0
theorem subband_Analyse.fnb : fnb Tryz.prog 26 = true:=fnb_of Tryz.func26 rfl
def subband_Encoder_Feed_2.res (_p0 : List Int) (_p1 _p2 _p3 _p4 _p5 _p6 _p7 _p8 _p9 _p10 _p11 : Int) (_p12 _p13 _p14 : List Int) : (List Int) × Int × (List Int) → MV
 | (q0,q1,_)=>.tup [.im (.slice (.int .u8)) q0,.int .i64 q1]
def subband_Encoder_Feed_2.out (_p0 : List Int) (p1 p2 p3 p4 p5 p6 p7 p8 p9 p10 p11 : Int) (p12 p13 _p14 : List Int) : (List Int) × Int × (List Int) → List (Nat × Option MObj)
 | (_,_,q2)=>[(0,some (.cells [.int .i64 p1,.int .i64 p2,.int .i64 p3,.int .i64 p4,.int .i64 p5,.int .i64 p6,.int .i64 p7,.int .i64 p8,.int .i64 p9,.int .i64 p10,.sl 1])),(1,some (.hrow [.p 2 0])),(2,some (.cells [.int .i64 p11,.im (.slice (.int .i16)) p12,.im (.slice (.int .i16)) p13,.sl 3])),(3,some (.rows (.int .i64) q2))]
theorem subband_Encoder_Feed_2.ok {K : Nat} {p0 : List Int} {p1 p2 p3 p4 p5 p6 p7 p8 p9 p10 p11 : Int} {p12 p13 p14 : List Int} {r : (List Int) × Int × (List Int)} (h0 : subband_Encoder_Feed_2 K p0 p1 p2 p3 p4 p5 p6 p7 p8 p9 p10 p11 p12 p13 p14 = some r) : Fn Tryz.prog 23 [.p 0 0,.im (.slice (.int .i16)) p0] [(0,some (.cells [.int .i64 p1,.int .i64 p2,.int .i64 p3,.int .i64 p4,.int .i64 p5,.int .i64 p6,.int .i64 p7,.int .i64 p8,.int .i64 p9,.int .i64 p10,.sl 1])),(1,some (.hrow [.p 2 0])),(2,some (.cells [.int .i64 p11,.im (.slice (.int .i16)) p12,.im (.slice (.int .i16)) p13,.sl 3])),(3,some (.rows (.int .i64) p14))] (subband_Encoder_Feed_2.res p0 p1 p2 p3 p4 p5 p6 p7 p8 p9 p10 p11 p12 p13 p14 r) (subband_Encoder_Feed_2.out p0 p1 p2 p3 p4 p5 p6 p7 p8 p9 p10 p11 p12 p13 p14 r):=by
 refine Fn_of Tryz.func23 rfl (Nat.le_of_ble_eq_true rfl) fun Γ=>?_
 refine zr ?_
 refine zv 2 rfl ⟨tv,tv,tv⟩ ?_
 refine ze ?_
 refine TC_seq ?_
 refine TC_blk ?_
 refine zr ?_
 refine zv 3 rfl ⟨tv,⟨tv,tv,tv⟩,tv,tv⟩ ?_
 refine ze ?_
 refine TC_cond rfl (fun hb=>?_) (fun hb=>?_)
 ·first | exact (ftf hb).elim | exact (tff hb).elim | exact absurd hb (by decide)
 ·refine TC_seq ?_
  refine TC_renw (A':=[(0,.p 0 0),(1,.im (.slice (.int .i16)) _)]) (L':=[(0,some (.cells [.int .i64 _,.int .i64 _,.int .i64 _,.int .i64 _,.int .i64 _,.int .i64 _,.int .i64 _,.int .i64 _,.int .i64 _,.int .i64 _,.sl 1])),(1,some (.hrow [.p 2 0])),(2,some (.cells [.int .i64 _,.im (.slice (.int .i16)) _,.im (.slice (.int .i16)) _,.sl 3])),(3,some (.rows (.int .i64) _))]) [] ⟨rfl,rfl,tv⟩ ⟨rfl,rfl,rfl,rfl,tv⟩ rfl ?_
  refine zd [[],[0],[],[2],[3,2],[4,3,2],[5,4,3,2],[],[7],[8,7],[9,8,7],[10,9,8,7],[11,10,9,8,7,6,5,4,3,2],[],[13],[14,13],[15,14,13],[16,15,14,13],[17,16,15,14,13,12,11,10,9,8,7,6,5,4,3,2],[18,17,16,15,14,13,12,11,10,9,8,7,6,5,4,3,2,1,0],[19,18,17,16,15,14,13,12,11,10,9,8,7,6,5,4,3,2,1,0]] [[],[],[],[],[],[],[],[],[],[],[],[],[],[],[],[],[],[],[],[],[]] [[],[],[],[],[],[],[],[],[],[],[],[],[],[],[],[],[],[],[],[],[]] [[],[],[],[],[],[],[],[],[],[],[],[],[],[],[],[],[],[],[],[],[]] (by kernel_rfl) (by kernel_rfl) ?_
  refine zj 1 rfl rfl rfl tv ?_
  refine zj 2 rfl rfl rfl ⟨tv,tv⟩ ?_
  refine zj 3 rfl rfl rfl tv ?_
  refine zj 4 rfl rfl rfl tv ?_
  refine zj 5 rfl rfl rfl tv ?_
  refine zj 6 rfl rfl rfl tv ?_
  refine zj 7 rfl rfl rfl ⟨tv,tv⟩ ?_
  refine zj 8 rfl rfl rfl tv ?_
  refine zj 9 rfl rfl rfl tv ?_
  refine zj 10 rfl rfl rfl tv ?_
  refine zj 11 rfl rfl rfl tv ?_
  refine zj 12 rfl rfl rfl ⟨tv,tv⟩ ?_
  refine zj 13 rfl rfl rfl ⟨tv,tv,tv⟩ ?_
  refine zj 14 rfl rfl rfl tv ?_
  refine zj 15 rfl rfl rfl tv ?_
  refine zj 16 rfl rfl rfl tv ?_
  refine zj 17 rfl rfl rfl tv ?_
  refine zj 18 rfl rfl rfl ⟨tv,tv⟩ ?_
  refine zj 19 rfl rfl rfl ⟨tv,tv,tv⟩ ?_
  refine zj 20 rfl rfl rfl ⟨tv,tv,tv⟩ ?_
  refine zj 21 rfl rfl rfl tv ?_
  refine AJR_end rfl rfl rfl ?_
  refine TE_go ?_
  refine TC_cond rfl (fun hb=>?_) (fun hb=>?_)
  ·replace h0:=bif_t h0 hb
   refine zr ?_
   refine zv 2 rfl ⟨tv,tv,tv⟩ ?_
   refine ze ?_
   refine TC_ret ?_
   refine tbr ?_
   refine tsr ?_
   refine TE_imn 4 (.int .u8) rfl ?_
   obtain rfl:=sinj h0
   exact TE_ret env rfl tv ⟨.inr rfl,.inr rfl,.inr rfl,.inr rfl,tv⟩
  ·replace h0:=bif_f h0 hb
   refine TC_skip ?_
   refine tbn ?_
   refine zg ?_
   refine zv 6 rfl ⟨tv,tv,tv,tv,tv,⟨tv,tv⟩,tv⟩ ?_
   obtain ⟨⟨r106,r107⟩,hr,h0⟩:=bnd h0
   refine TL_callB [] (pcm_Part.ok0 hr) pcm_Part.fnb rfl ⟨tv,⟨tv,⟨tv,tv⟩⟩⟩ rfl tv rfl ?_
   refine zv 5 rfl ⟨tv,tv,tv,tv,tv,tv⟩ ?_
   refine zn ?_
   obtain ⟨g,h0⟩:=gd_t h0
   refine zv 7 rfl ⟨tv,tv,tv,tv,⟨tv,tv⟩,⟨tv,tv,g.1,g.2.1,g.2.2⟩,tv,tv⟩ ?_
   refine ze ?_
   refine TC_seq ?_
   refine zr ?_
   refine zv 3 rfl ⟨tv,⟨tv,tv⟩,tv,tv⟩ ?_
   refine ze ?_
   obtain ⟨z1,h1,h0⟩:=bnd h0
   refine TC_cut (α:=(List Int) × (List (List (List Int)))) (fun s=>z1 = s) (fun s=>[(0,.p 0 0),(8,.sl 14004)]) (fun s=>[(0,some (.cells [.int .i64 p1,.int .i64 p2,.int .i64 p3,.int .i64 p4,.int .i64 p5,.int .i64 p6,.int .i64 p7,.int .i64 p8,.int .i64 p9,.int .i64 p10,.sl 1])),(1,some (.hrow [.p 2 0])),(2,some (.cells [.int .i64 p11,.im (.slice (.int .i16)) p12,.im (.slice (.int .i16)) p13,.sl 3])),(3,some (.rows (.int .i64) s.1)),(14004,some (.rr true (.slice (.int .i32)) s.2 none))]) ?_ ?_
   ·refine TC_blk ?_
    refine TC_loop (α:=Int × (List Int) × (List (List (List Int)))) (fun n s=>subband_Encoder_Feed_2.l0 K r106 (r106.length : Int) p1 p2 p3 p4 p5 p6 p7 p8 p9 p10 p11 p12 p13 n s.1 s.2.1 s.2.2 = some z1) (fun s=>[(0,.p 0 0),(8,.sl 15004),(56,.im (.slice (.slice (.int .i16))) r106),(57,.int .i64 (r106.length : Int)),(58,.int .i64 s.1)]) (fun s=>[(0,some (.cells [.int .i64 p1,.int .i64 p2,.int .i64 p3,.int .i64 p4,.int .i64 p5,.int .i64 p6,.int .i64 p7,.int .i64 p8,.int .i64 p9,.int .i64 p10,.sl 1])),(1,some (.hrow [.p 2 0])),(2,some (.cells [.int .i64 p11,.im (.slice (.int .i16)) p12,.im (.slice (.int .i16)) p13,.sl 3])),(3,some (.rows (.int .i64) s.2.1)),(15004,some (.rr true (.slice (.int .i32)) s.2.2 none))]) K ?_ ?_
    ·exact SP_ren [(15004,1055)] (_,_,_) h1 ⟨rfl,rfl,rfl,rfl,rfl,tv⟩ ⟨rfl,rfl,rfl,rfl,rfl,tv⟩ rfl
    rintro n ⟨x249,x250,x251⟩ h1
    rcases n with _ | n
    ·exact (nsome h1).elim
    replace h1 : subband_Encoder_Feed_2.r0 K r106 (r106.length : Int) p1 p2 p3 p4 p5 p6 p7 p8 p9 p10 p11 p12 p13 (subband_Encoder_Feed_2.l0 K r106 (r106.length : Int) p1 p2 p3 p4 p5 p6 p7 p8 p9 p10 p11 p12 p13 n) x249 x250 x251 = some z1:=h1
    refine zr ?_
    refine zv 1 rfl ⟨⟨tv,tv,tv⟩,tv⟩ ?_
    refine ze ?_
    refine TC_seq ?_
    refine TC_cond rfl (fun hb=>?_) (fun hb=>?_)
    ·replace h1:=bif_t h1 hb
     refine TC_skip ?_
     refine TE_go ?_
     refine TC_seq ?_
     refine TC_blk ?_
     refine zr ?_
     obtain ⟨g,h1⟩:=gd_t h1
     refine zv 5 rfl ⟨tv,⟨tv,tv,g.1,g.2⟩,⟨tv,tv⟩,tv,tv,tv⟩ ?_
     refine zn ?_
     refine zv 1 rfl ⟨tv,tv⟩ ?_
     refine ze ?_
     obtain ⟨z2,h2,h1⟩:=bnd h1
     refine TC_cut (α:=Int × (List Int) × (List (List (List Int)))) (fun s=>z2 = s) (fun s=>[(0,.p 0 0),(8,.sl 16704),(56,.im (.slice (.slice (.int .i16))) r106),(57,.int .i64 (r106.length : Int)),(58,.int .i64 s.1)]) (fun s=>[(0,some (.cells [.int .i64 p1,.int .i64 p2,.int .i64 p3,.int .i64 p4,.int .i64 p5,.int .i64 p6,.int .i64 p7,.int .i64 p8,.int .i64 p9,.int .i64 p10,.sl 1])),(1,some (.hrow [.p 2 0])),(2,some (.cells [.int .i64 p11,.im (.slice (.int .i16)) p12,.im (.slice (.int .i16)) p13,.sl 3])),(3,some (.rows (.int .i64) s.2.1)),(16704,some (.rr true (.slice (.int .i32)) s.2.2 none))]) ?_ ?_
     ·refine TC_blk ?_
      refine TC_loop (α:=Int × Int × (List Int) × (List (List (List Int)))) (fun n s=>subband_Encoder_Feed_2.l1 K (Kd.nth (.slice (.int .i16)) r106 (Int.toNat x249)) r106 (r106.length : Int) p1 p2 p3 p4 p5 p6 p7 p8 p9 p10 p11 p12 p13 n s.1 s.2.1 s.2.2.1 s.2.2.2 = some z2) (fun s=>[(0,.p 0 0),(8,.sl 16904),(9,.int .i64 s.1),(10,.im (.slice (.int .i16)) (Kd.nth (.slice (.int .i16)) r106 (Int.toNat x249))),(11,.int .i64 s.2.1),(56,.im (.slice (.slice (.int .i16))) r106),(57,.int .i64 (r106.length : Int)),(58,.int .i64 s.1)]) (fun s=>[(0,some (.cells [.int .i64 p1,.int .i64 p2,.int .i64 p3,.int .i64 p4,.int .i64 p5,.int .i64 p6,.int .i64 p7,.int .i64 p8,.int .i64 p9,.int .i64 p10,.sl 1])),(1,some (.hrow [.p 2 0])),(2,some (.cells [.int .i64 p11,.im (.slice (.int .i16)) p12,.im (.slice (.int .i16)) p13,.sl 3])),(3,some (.rows (.int .i64) s.2.2.1)),(16904,some (.rr true (.slice (.int .i32)) s.2.2.2 none))]) K ?_ ?_
      ·exact SP_ren [(16904,15004)] (_,_,_,_) h2 ⟨rfl,rfl,rfl,rfl,rfl,rfl,rfl,rfl,tv⟩ ⟨rfl,rfl,rfl,rfl,rfl,tv⟩ rfl
      rintro n ⟨x356,x357,x358,x359⟩ h2
      rcases n with _ | n
      ·exact (nsome h2).elim
      replace h2 : subband_Encoder_Feed_2.r1 K (Kd.nth (.slice (.int .i16)) r106 (Int.toNat x249)) r106 (r106.length : Int) p1 p2 p3 p4 p5 p6 p7 p8 p9 p10 p11 p12 p13 (subband_Encoder_Feed_2.l1 K (Kd.nth (.slice (.int .i16)) r106 (Int.toNat x249)) r106 (r106.length : Int) p1 p2 p3 p4 p5 p6 p7 p8 p9 p10 p11 p12 p13 n) x356 x357 x358 x359 = some z2:=h2
      refine TC_seq ?_
      refine zr ?_
      refine zv 4 rfl ⟨tv,tv,⟨tv,tv⟩,⟨tv,tv,tv⟩,tv⟩ ?_
      refine ze ?_
      refine TC_cond rfl (fun hb=>?_) (fun hb=>?_)
      ·replace h2:=bif_t h2 hb
       refine TC_skip ?_
       refine TE_go ?_
       refine TC_seq ?_
       refine TC_blk ?_
       refine TC_seq ?_
       refine nums h2 (fun hx h2=>?_) (fun h2=>?_)
       ·refine TC_num 9 0 hx rfl ?_
        refine TC_num 58 0 hx rfl ?_
        refine TC_renw (A':=[(0,.p 0 0),(8,.sl 16904),(9,.int .i64 0),(10,.im (.slice (.int .i16)) _),(11,.int .i64 _),(56,.im (.slice (.slice (.int .i16))) _),(57,.int .i64 _),(58,.int .i64 0)]) (L':=[(0,some (.cells [.int .i64 _,.int .i64 _,.int .i64 _,.int .i64 _,.int .i64 _,.int .i64 _,.int .i64 _,.int .i64 _,.int .i64 _,.int .i64 _,.sl 1])),(1,some (.hrow [.p 2 0])),(2,some (.cells [.int .i64 _,.im (.slice (.int .i16)) _,.im (.slice (.int .i16)) _,.sl 3])),(3,some (.rows (.int .i64) _)),(16904,some (.rr true (.slice (.int .i32)) _ none))]) [] ⟨rfl,rfl,rfl,rfl,rfl,rfl,rfl,rfl,tv⟩ ⟨rfl,rfl,rfl,rfl,rfl,tv⟩ rfl ?_
        refine zd [[],[0],[1,0],[2,1,0],[],[4,3,2,1,0],[5,4,3,2,1,0],[],[],[],[],[10],[11,10],[12,11,10],[13,12,11,10],[14,13,12,11,10,9],[15,14,13,12,11,10,9,8,7],[16,15,14,13,12,11,10,9,8,7,6,5,4,3,2,1,0],[17,16,15,14,13,12,11,10,9,8,7,6,5,4,3,2,1,0],[18,17,16,15,14,13,12,11,10,9,8,7,6,5,4,3,2,1,0],[18,17,16,15,14,13,12,11,10,9,8,7,6,5,4,3,2,1,0],[19,18,17,16,15,14,13,12,11,10,9,8,7,6,5,4,3,2,1,0],[21,20,19,18,17,16,15,14,13,12,11,10,9,8,7,6,5,4,3,2,1,0]] [[],[],[],[],[],[],[],[],[],[],[],[],[],[],[],[],[],[2,3],[],[],[],[],[]] [[],[],[],[],[],[],[],[],[],[],[],[],[],[],[],[],[],[],[],[],[],[],[]] [[],[],[],[],[],[],[],[],[],[],[],[],[],[],[],[],[],[],[],[],[],[],[]] (by kernel_rfl) (by kernel_rfl) ?_
        refine zj 1 rfl rfl rfl tv ?_
        refine zj 2 rfl rfl rfl tv ?_
        refine zj 3 rfl rfl rfl tv ?_
        refine zj 4 rfl rfl rfl ⟨tv,tv⟩ ?_
        refine zj 5 rfl rfl rfl tv ?_
        refine zj 6 rfl rfl rfl ⟨tv,tv,(by decide),(by decide)⟩ ?_
        refine zj 7 rfl rfl rfl ⟨tv,tv⟩ ?_
        refine zj 8 rfl rfl rfl tv ?_
        refine zj 9 rfl rfl rfl tv ?_
        refine zj 10 rfl rfl rfl tv ?_
        refine zj 11 rfl rfl rfl tv ?_
        refine zj 12 rfl rfl rfl tv ?_
        refine zj 13 rfl rfl rfl tv ?_
        refine zj 14 rfl rfl rfl tv ?_
        refine zj 15 rfl rfl rfl ⟨tv,tv⟩ ?_
        refine zj 16 rfl rfl rfl ⟨tv,tv,tv⟩ ?_
        obtain ⟨g,h2⟩:=gd_t h2
        refine zj 17 rfl rfl rfl ⟨tv,tv,tv,g.1,g.2.1,g.2.2⟩ ?_
        obtain ⟨⟨r377,r378,r379⟩,hr,h2⟩:=bnd h2
        refine AJR_call 18 rfl (Nat.le_of_ble_eq_true rfl) [(0,2),(1,3)] rfl (poly_Splitter_Feed.ok0 hr) poly_Splitter_Feed.fnb rfl ⟨tv,⟨tv,⟨tv,tv⟩⟩⟩ rfl ⟨.inr rfl,.inr rfl,tv⟩ rfl ?_
        refine zj 19 rfl rfl rfl tv ?_
        refine zj 20 rfl rfl rfl tv ?_
        refine zj 21 rfl rfl rfl tv ?_
        refine zj 22 rfl rfl rfl tv ?_
        refine zj 23 rfl rfl rfl tv ?_
        refine AJR_end rfl rfl rfl ?_
        refine zt ?_
        obtain ⟨g,h2⟩:=gd_t h2
        refine zv 11 rfl ⟨tv,tv,tv,tv,⟨tv,tv,(by decide),g.1⟩,⟨tv,g.2.1⟩,tv,⟨tv,tv⟩,⟨⟨tv,tv,tv⟩,g.2.2.1⟩,⟨tv,tv,(by decide),g.2.2.2.1⟩,⟨tv,tv,g.2.2.2.2,rfl⟩,tv⟩ ?_
        refine TL_end ?_
        refine tbn ?_
        refine zt ?_
        refine zv 8 rfl ⟨tv,tv,tv,tv,tv,⟨tv,tv⟩,⟨tv,tv,tv⟩,tv,tv⟩ ?_
        refine zm ?_
        exact TE_nextr [(16904,16904)] n (zs n) (_,_,_,_) h2 ⟨rfl,rfl,rfl,rfl,rfl,rfl,rfl,rfl,tv⟩ ⟨rfl,rfl,rfl,rfl,rfl,tv⟩ rfl
       ·exact (nsome h2).elim
      ·replace h2:=bif_f h2 hb
       refine TC_exit ?_
       refine tsx ?_
       refine tsx ?_
       refine tbe ?_
       obtain rfl:=sinj h2
       refine tsn ?_
       exact SP_ren [(16704,16904)] (_,_,_) rfl ⟨rfl,rfl,rfl,rfl,rfl,tv⟩ ⟨rfl,rfl,rfl,rfl,rfl,tv⟩ rfl
     ·rintro ⟨x346,x347,x348⟩ rfl
      refine tbn ?_
      refine zt ?_
      refine zv 2 rfl ⟨⟨tv,tv,tv⟩,tv,tv⟩ ?_
      refine zm ?_
      exact TE_nextr [(15004,16704)] n (zs n) (_,_,_) h1 ⟨rfl,rfl,rfl,rfl,rfl,tv⟩ ⟨rfl,rfl,rfl,rfl,rfl,tv⟩ rfl
    ·replace h1:=bif_f h1 hb
     refine TC_exit ?_
     refine tsx ?_
     refine tsx ?_
     refine tbe ?_
     obtain rfl:=sinj h1
     refine tsn ?_
     exact SP_ren [(14004,15004)] (_,_) rfl ⟨rfl,rfl,tv⟩ ⟨rfl,rfl,rfl,rfl,rfl,tv⟩ rfl
   ·rintro ⟨x201,x202⟩ rfl
    refine zg ?_
    refine zv 5 rfl ⟨tv,tv,tv,⟨tv,tv⟩,tv,tv⟩ ?_
    refine TL_frr 14004 rfl ?_
    obtain ⟨⟨r203,r204,r205,r206⟩,hr,h0⟩:=bnd h0
    refine TL_callB [] (subband_Analyse.ok0 hr) subband_Analyse.fnb rfl ⟨tv,⟨tv,⟨tv,tv⟩⟩⟩ rfl tv rfl ?_
    refine zv 6 rfl ⟨tv,tv,tv,tv,⟨tv,tv⟩,tv,tv⟩ ?_
    refine ze ?_
    refine TC_seq ?_
    refine TC_renw (A':=[(0,.p 0 0),(14,.p 1014 0)]) (L':=[(0,some (.cells [.int .i64 _,.int .i64 _,.int .i64 _,.int .i64 _,.int .i64 _,.int .i64 _,.int .i64 _,.int .i64 _,.int .i64 _,.int .i64 _,.sl 1])),(1,some (.hrow [.p 2 0])),(2,some (.cells [.int .i64 _,.im (.slice (.int .i16)) _,.im (.slice (.int .i16)) _,.sl 3])),(3,some (.rows (.int .i64) _)),(1014,some (.cells [.im (.slice (.int .i64)) _,.im (.slice (.slice (.int .i64))) _,.im (.slice (.slice (.slice (.int .i64)))) _]))]) [] ⟨rfl,rfl,tv⟩ ⟨rfl,rfl,rfl,rfl,rfl,tv⟩ rfl ?_
    refine zd [[],[0],[1,0],[2,1,0],[],[4,3,2,1,0],[5,4,3,2,1,0],[5,4,3,2,1,0],[7,6,5,4,3,2,1,0],[8,7,6,5,4,3,2,1,0]] [[],[],[],[],[],[],[],[],[],[]] [[],[],[],[],[],[],[],[],[],[]] [[],[],[],[],[],[],[],[],[],[]] (by kernel_rfl) (by kernel_rfl) ?_
    refine zj 1 rfl rfl rfl tv ?_
    refine zj 2 rfl rfl rfl tv ?_
    refine zj 3 rfl rfl rfl tv ?_
    refine zj 4 rfl rfl rfl ⟨tv,tv⟩ ?_
    refine zj 5 rfl rfl rfl ⟨tv,tv⟩ ?_
    obtain ⟨⟨r207,r208⟩,hr,h0⟩:=bnd h0
    refine AJR_call 6 rfl (Nat.le_of_ble_eq_true rfl) [] rfl (subband_Pack.ok0 hr) subband_Pack.fnb rfl ⟨tv,⟨tv,⟨tv,tv⟩⟩⟩ rfl tv rfl ?_
    refine zj 7 rfl rfl rfl tv ?_
    refine zj 8 rfl rfl rfl tv ?_
    refine zj 9 rfl rfl rfl tv ?_
    refine zj 10 rfl rfl rfl tv ?_
    refine AJR_end rfl rfl rfl ?_
    refine zu ?_
    obtain rfl:=sinj h0
    exact TE_ret env rfl tv ⟨.inr rfl,.inr rfl,.inr rfl,.inr rfl,tv⟩
theorem subband_Encoder_Feed_2.ok0 {K : Nat} {p0 : List Int} {p1 p2 p3 p4 p5 p6 p7 p8 p9 p10 p11 : Int} {p12 p13 p14 q0 : List Int} {q1 : Int} {q2 : List Int} (h0 : subband_Encoder_Feed_2 K p0 p1 p2 p3 p4 p5 p6 p7 p8 p9 p10 p11 p12 p13 p14 = some (q0,q1,q2)) : Fn Tryz.prog 23 [.p 0 0,.im (.slice (.int .i16)) p0] [(0,some (.cells [.int .i64 p1,.int .i64 p2,.int .i64 p3,.int .i64 p4,.int .i64 p5,.int .i64 p6,.int .i64 p7,.int .i64 p8,.int .i64 p9,.int .i64 p10,.sl 1])),(1,some (.hrow [.p 2 0])),(2,some (.cells [.int .i64 p11,.im (.slice (.int .i16)) p12,.im (.slice (.int .i16)) p13,.sl 3])),(3,some (.rows (.int .i64) p14))] (.tup [.im (.slice (.int .u8)) q0,.int .i64 q1]) [(0,some (.cells [.int .i64 p1,.int .i64 p2,.int .i64 p3,.int .i64 p4,.int .i64 p5,.int .i64 p6,.int .i64 p7,.int .i64 p8,.int .i64 p9,.int .i64 p10,.sl 1])),(1,some (.hrow [.p 2 0])),(2,some (.cells [.int .i64 p11,.im (.slice (.int .i16)) p12,.im (.slice (.int .i16)) p13,.sl 3])),(3,some (.rows (.int .i64) q2))]:=subband_Encoder_Feed_2.ok h0
theorem subband_Encoder_Feed_2.fnb : fnb Tryz.prog 23 = true:=fnb_of Tryz.func23 rfl
def subband_Encoder_Feed_3.res (_p0 : List Int) (_p1 _p2 _p3 _p4 _p5 _p6 _p7 _p8 _p9 _p10 _p11 : Int) (_p12 _p13 : List Int) (_p14 : Int) (_p15 _p16 _p17 _p18 : List Int) : (List Int) × Int × (List Int) × (List Int) → MV
 | (q0,q1,_,_)=>.tup [.im (.slice (.int .u8)) q0,.int .i64 q1]
def subband_Encoder_Feed_3.out (_p0 : List Int) (p1 p2 p3 p4 p5 p6 p7 p8 p9 p10 p11 : Int) (p12 p13 : List Int) (p14 : Int) (p15 p16 _p17 _p18 : List Int) : (List Int) × Int × (List Int) × (List Int) → List (Nat × Option MObj)
 | (_,_,q2,q3)=>[(0,some (.cells [.int .i64 p1,.int .i64 p2,.int .i64 p3,.int .i64 p4,.int .i64 p5,.int .i64 p6,.int .i64 p7,.int .i64 p8,.int .i64 p9,.int .i64 p10,.sl 1])),(1,some (.hrow [.p 2 0,.p 3 0])),(2,some (.cells [.int .i64 p11,.im (.slice (.int .i16)) p12,.im (.slice (.int .i16)) p13,.sl 4])),(3,some (.cells [.int .i64 p14,.im (.slice (.int .i16)) p15,.im (.slice (.int .i16)) p16,.sl 5])),(4,some (.rows (.int .i64) q2)),(5,some (.rows (.int .i64) q3))]
theorem subband_Encoder_Feed_3.ok {K : Nat} {p0 : List Int} {p1 p2 p3 p4 p5 p6 p7 p8 p9 p10 p11 : Int} {p12 p13 : List Int} {p14 : Int} {p15 p16 p17 p18 : List Int} {r : (List Int) × Int × (List Int) × (List Int)} (h0 : subband_Encoder_Feed_3 K p0 p1 p2 p3 p4 p5 p6 p7 p8 p9 p10 p11 p12 p13 p14 p15 p16 p17 p18 = some r) : Fn Tryz.prog 23 [.p 0 0,.im (.slice (.int .i16)) p0] [(0,some (.cells [.int .i64 p1,.int .i64 p2,.int .i64 p3,.int .i64 p4,.int .i64 p5,.int .i64 p6,.int .i64 p7,.int .i64 p8,.int .i64 p9,.int .i64 p10,.sl 1])),(1,some (.hrow [.p 2 0,.p 3 0])),(2,some (.cells [.int .i64 p11,.im (.slice (.int .i16)) p12,.im (.slice (.int .i16)) p13,.sl 4])),(3,some (.cells [.int .i64 p14,.im (.slice (.int .i16)) p15,.im (.slice (.int .i16)) p16,.sl 5])),(4,some (.rows (.int .i64) p17)),(5,some (.rows (.int .i64) p18))] (subband_Encoder_Feed_3.res p0 p1 p2 p3 p4 p5 p6 p7 p8 p9 p10 p11 p12 p13 p14 p15 p16 p17 p18 r) (subband_Encoder_Feed_3.out p0 p1 p2 p3 p4 p5 p6 p7 p8 p9 p10 p11 p12 p13 p14 p15 p16 p17 p18 r):=by
 refine Fn_of Tryz.func23 rfl (Nat.le_of_ble_eq_true rfl) fun Γ=>?_
 refine zr ?_
 refine zv 2 rfl ⟨tv,tv,tv⟩ ?_
 refine ze ?_
 refine TC_seq ?_
 refine TC_blk ?_
 refine zr ?_
 refine zv 3 rfl ⟨tv,⟨tv,tv,tv⟩,tv,tv⟩ ?_
 refine ze ?_
 refine TC_cond rfl (fun hb=>?_) (fun hb=>?_)
 ·first | exact (ftf hb).elim | exact (tff hb).elim | exact absurd hb (by decide)
 ·refine TC_seq ?_
  refine TC_renw (A':=[(0,.p 0 0),(1,.im (.slice (.int .i16)) _)]) (L':=[(0,some (.cells [.int .i64 _,.int .i64 _,.int .i64 _,.int .i64 _,.int .i64 _,.int .i64 _,.int .i64 _,.int .i64 _,.int .i64 _,.int .i64 _,.sl 1])),(1,some (.hrow [.p 2 0,.p 3 0])),(2,some (.cells [.int .i64 _,.im (.slice (.int .i16)) _,.im (.slice (.int .i16)) _,.sl 4])),(3,some (.cells [.int .i64 _,.im (.slice (.int .i16)) _,.im (.slice (.int .i16)) _,.sl 5])),(4,some (.rows (.int .i64) _)),(5,some (.rows (.int .i64) _))]) [] ⟨rfl,rfl,tv⟩ ⟨rfl,rfl,rfl,rfl,rfl,rfl,tv⟩ rfl ?_
  refine zd [[],[0],[],[2],[3,2],[4,3,2],[5,4,3,2],[],[7],[8,7],[9,8,7],[10,9,8,7],[11,10,9,8,7,6,5,4,3,2],[],[13],[14,13],[15,14,13],[16,15,14,13],[17,16,15,14,13,12,11,10,9,8,7,6,5,4,3,2],[18,17,16,15,14,13,12,11,10,9,8,7,6,5,4,3,2,1,0],[19,18,17,16,15,14,13,12,11,10,9,8,7,6,5,4,3,2,1,0]] [[],[],[],[],[],[],[],[],[],[],[],[],[],[],[],[],[],[],[],[],[]] [[],[],[],[],[],[],[],[],[],[],[],[],[],[],[],[],[],[],[],[],[]] [[],[],[],[],[],[],[],[],[],[],[],[],[],[],[],[],[],[],[],[],[]] (by kernel_rfl) (by kernel_rfl) ?_
  refine zj 1 rfl rfl rfl tv ?_
  refine zj 2 rfl rfl rfl ⟨tv,tv⟩ ?_
  refine zj 3 rfl rfl rfl tv ?_
  refine zj 4 rfl rfl rfl tv ?_
  refine zj 5 rfl rfl rfl tv ?_
  refine zj 6 rfl rfl rfl tv ?_
  refine zj 7 rfl rfl rfl ⟨tv,tv⟩ ?_
  refine zj 8 rfl rfl rfl tv ?_
  refine zj 9 rfl rfl rfl tv ?_
  refine zj 10 rfl rfl rfl tv ?_
  refine zj 11 rfl rfl rfl tv ?_
  refine zj 12 rfl rfl rfl ⟨tv,tv⟩ ?_
  refine zj 13 rfl rfl rfl ⟨tv,tv,tv⟩ ?_
  refine zj 14 rfl rfl rfl tv ?_
  refine zj 15 rfl rfl rfl tv ?_
  refine zj 16 rfl rfl rfl tv ?_
  refine zj 17 rfl rfl rfl tv ?_
  refine zj 18 rfl rfl rfl ⟨tv,tv⟩ ?_
  refine zj 19 rfl rfl rfl ⟨tv,tv,tv⟩ ?_
  refine zj 20 rfl rfl rfl ⟨tv,tv,tv⟩ ?_
  refine zj 21 rfl rfl rfl tv ?_
  refine AJR_end rfl rfl rfl ?_
  refine TE_go ?_
  refine TC_cond rfl (fun hb=>?_) (fun hb=>?_)
  ·replace h0:=bif_t h0 hb
   refine zr ?_
   refine zv 2 rfl ⟨tv,tv,tv⟩ ?_
   refine ze ?_
   refine TC_ret ?_
   refine tbr ?_
   refine tsr ?_
   refine TE_imn 4 (.int .u8) rfl ?_
   obtain rfl:=sinj h0
   exact TE_ret env rfl tv ⟨.inr rfl,.inr rfl,.inr rfl,.inr rfl,.inr rfl,.inr rfl,tv⟩
  ·replace h0:=bif_f h0 hb
   refine TC_skip ?_
   refine tbn ?_
   refine zg ?_
   refine zv 6 rfl ⟨tv,tv,tv,tv,tv,⟨tv,tv⟩,tv⟩ ?_
   obtain ⟨⟨r202,r203⟩,hr,h0⟩:=bnd h0
   refine TL_callB [] (pcm_Part.ok0 hr) pcm_Part.fnb rfl ⟨tv,⟨tv,⟨tv,tv⟩⟩⟩ rfl tv rfl ?_
   refine zv 5 rfl ⟨tv,tv,tv,tv,tv,tv⟩ ?_
   refine zn ?_
   obtain ⟨g,h0⟩:=gd_t h0
   refine zv 7 rfl ⟨tv,tv,tv,tv,⟨tv,tv⟩,⟨tv,tv,g.1,g.2.1,g.2.2⟩,tv,tv⟩ ?_
   refine ze ?_
   refine TC_seq ?_
   refine zr ?_
   refine zv 3 rfl ⟨tv,⟨tv,tv⟩,tv,tv⟩ ?_
   refine ze ?_
   obtain ⟨z1,h1,h0⟩:=bnd h0
   refine TC_cut (α:=(List Int) × (List Int) × (List (List (List Int)))) (fun s=>z1 = s) (fun s=>[(0,.p 0 0),(8,.sl 17406)]) (fun s=>[(0,some (.cells [.int .i64 p1,.int .i64 p2,.int .i64 p3,.int .i64 p4,.int .i64 p5,.int .i64 p6,.int .i64 p7,.int .i64 p8,.int .i64 p9,.int .i64 p10,.sl 1])),(1,some (.hrow [.p 2 0,.p 3 0])),(2,some (.cells [.int .i64 p11,.im (.slice (.int .i16)) p12,.im (.slice (.int .i16)) p13,.sl 4])),(3,some (.cells [.int .i64 p14,.im (.slice (.int .i16)) p15,.im (.slice (.int .i16)) p16,.sl 5])),(4,some (.rows (.int .i64) s.1)),(5,some (.rows (.int .i64) s.2.1)),(17406,some (.rr true (.slice (.int .i32)) s.2.2 none))]) ?_ ?_
   ·refine TC_blk ?_
    refine TC_loop (α:=Int × (List Int) × (List Int) × (List (List (List Int)))) (fun n s=>subband_Encoder_Feed_3.l0 K r202 (r202.length : Int) p1 p2 p3 p4 p5 p6 p7 p8 p9 p10 p11 p12 p13 p14 p15 p16 n s.1 s.2.1 s.2.2.1 s.2.2.2 = some z1) (fun s=>[(0,.p 0 0),(8,.sl 19706),(56,.im (.slice (.slice (.int .i16))) r202),(57,.int .i64 (r202.length : Int)),(58,.int .i64 s.1)]) (fun s=>[(0,some (.cells [.int .i64 p1,.int .i64 p2,.int .i64 p3,.int .i64 p4,.int .i64 p5,.int .i64 p6,.int .i64 p7,.int .i64 p8,.int .i64 p9,.int .i64 p10,.sl 1])),(1,some (.hrow [.p 2 0,.p 3 0])),(2,some (.cells [.int .i64 p11,.im (.slice (.int .i16)) p12,.im (.slice (.int .i16)) p13,.sl 4])),(3,some (.cells [.int .i64 p14,.im (.slice (.int .i16)) p15,.im (.slice (.int .i16)) p16,.sl 5])),(4,some (.rows (.int .i64) s.2.1)),(5,some (.rows (.int .i64) s.2.2.1)),(19706,some (.rr true (.slice (.int .i32)) s.2.2.2 none))]) K ?_ ?_
    ·exact SP_ren [(19706,1055)] (_,_,_,_) h1 ⟨rfl,rfl,rfl,rfl,rfl,tv⟩ ⟨rfl,rfl,rfl,rfl,rfl,rfl,rfl,tv⟩ rfl
    rintro n ⟨x512,x513,x514,x515⟩ h1
    rcases n with _ | n
    ·exact (nsome h1).elim
    replace h1 : subband_Encoder_Feed_3.r0 K r202 (r202.length : Int) p1 p2 p3 p4 p5 p6 p7 p8 p9 p10 p11 p12 p13 p14 p15 p16 (subband_Encoder_Feed_3.l0 K r202 (r202.length : Int) p1 p2 p3 p4 p5 p6 p7 p8 p9 p10 p11 p12 p13 p14 p15 p16 n) x512 x513 x514 x515 = some z1:=h1
    refine zr ?_
    refine zv 1 rfl ⟨⟨tv,tv,tv⟩,tv⟩ ?_
    refine ze ?_
    refine TC_seq ?_
    refine TC_cond rfl (fun hb=>?_) (fun hb=>?_)
    ·replace h1:=bif_t h1 hb
     refine TC_skip ?_
     refine TE_go ?_
     refine TC_seq ?_
     refine TC_blk ?_
     refine zr ?_
     obtain ⟨g,h1⟩:=gd_t h1
     refine zv 5 rfl ⟨tv,⟨tv,tv,g.1,g.2⟩,⟨tv,tv⟩,tv,tv,tv⟩ ?_
     refine zn ?_
     refine zv 1 rfl ⟨tv,tv⟩ ?_
     refine ze ?_
     obtain ⟨z2,h2,h1⟩:=bnd h1
     refine TC_cut (α:=Int × (List Int) × (List Int) × (List (List (List Int)))) (fun s=>z2 = s) (fun s=>[(0,.p 0 0),(8,.sl 22206),(56,.im (.slice (.slice (.int .i16))) r202),(57,.int .i64 (r202.length : Int)),(58,.int .i64 s.1)]) (fun s=>[(0,some (.cells [.int .i64 p1,.int .i64 p2,.int .i64 p3,.int .i64 p4,.int .i64 p5,.int .i64 p6,.int .i64 p7,.int .i64 p8,.int .i64 p9,.int .i64 p10,.sl 1])),(1,some (.hrow [.p 2 0,.p 3 0])),(2,some (.cells [.int .i64 p11,.im (.slice (.int .i16)) p12,.im (.slice (.int .i16)) p13,.sl 4])),(3,some (.cells [.int .i64 p14,.im (.slice (.int .i16)) p15,.im (.slice (.int .i16)) p16,.sl 5])),(4,some (.rows (.int .i64) s.2.1)),(5,some (.rows (.int .i64) s.2.2.1)),(22206,some (.rr true (.slice (.int .i32)) s.2.2.2 none))]) ?_ ?_
     ·refine TC_blk ?_
      refine TC_loop (α:=Int × Int × (List Int) × (List Int) × (List (List (List Int)))) (fun n s=>subband_Encoder_Feed_3.l1 K (Kd.nth (.slice (.int .i16)) r202 (Int.toNat x512)) r202 (r202.length : Int) p1 p2 p3 p4 p5 p6 p7 p8 p9 p10 p11 p12 p13 p14 p15 p16 n s.1 s.2.1 s.2.2.1 s.2.2.2.1 s.2.2.2.2 = some z2) (fun s=>[(0,.p 0 0),(8,.sl 22506),(9,.int .i64 s.1),(10,.im (.slice (.int .i16)) (Kd.nth (.slice (.int .i16)) r202 (Int.toNat x512))),(11,.int .i64 s.2.1),(56,.im (.slice (.slice (.int .i16))) r202),(57,.int .i64 (r202.length : Int)),(58,.int .i64 s.1)]) (fun s=>[(0,some (.cells [.int .i64 p1,.int .i64 p2,.int .i64 p3,.int .i64 p4,.int .i64 p5,.int .i64 p6,.int .i64 p7,.int .i64 p8,.int .i64 p9,.int .i64 p10,.sl 1])),(1,some (.hrow [.p 2 0,.p 3 0])),(2,some (.cells [.int .i64 p11,.im (.slice (.int .i16)) p12,.im (.slice (.int .i16)) p13,.sl 4])),(3,some (.cells [.int .i64 p14,.im (.slice (.int .i16)) p15,.im (.slice (.int .i16)) p16,.sl 5])),(4,some (.rows (.int .i64) s.2.2.1)),(5,some (.rows (.int .i64) s.2.2.2.1)),(22506,some (.rr true (.slice (.int .i32)) s.2.2.2.2 none))]) K ?_ ?_
      ·exact SP_ren [(22506,19706)] (_,_,_,_,_) h2 ⟨rfl,rfl,rfl,rfl,rfl,rfl,rfl,rfl,tv⟩ ⟨rfl,rfl,rfl,rfl,rfl,rfl,rfl,tv⟩ rfl
      rintro n ⟨x669,x670,x671,x672,x673⟩ h2
      rcases n with _ | n
      ·exact (nsome h2).elim
      replace h2 : subband_Encoder_Feed_3.r1 K (Kd.nth (.slice (.int .i16)) r202 (Int.toNat x512)) r202 (r202.length : Int) p1 p2 p3 p4 p5 p6 p7 p8 p9 p10 p11 p12 p13 p14 p15 p16 (subband_Encoder_Feed_3.l1 K (Kd.nth (.slice (.int .i16)) r202 (Int.toNat x512)) r202 (r202.length : Int) p1 p2 p3 p4 p5 p6 p7 p8 p9 p10 p11 p12 p13 p14 p15 p16 n) x669 x670 x671 x672 x673 = some z2:=h2
      refine TC_seq ?_
      refine zr ?_
      refine zv 4 rfl ⟨tv,tv,⟨tv,tv⟩,⟨tv,tv,tv⟩,tv⟩ ?_
      refine ze ?_
      refine TC_cond rfl (fun hb=>?_) (fun hb=>?_)
      ·replace h2:=bif_t h2 hb
       refine TC_skip ?_
       refine TE_go ?_
       refine TC_seq ?_
       obtain ⟨z3,h3,h2⟩:=bnd h2
       refine TC_cut (α:=Int × (List Int) × (List Int) × (List (List (List Int)))) (fun s=>z3 = s) (fun s=>[(0,.p 0 0),(8,.sl 22806),(9,.int .i64 s.1),(10,.im (.slice (.int .i16)) (Kd.nth (.slice (.int .i16)) r202 (Int.toNat x512))),(11,.int .i64 x670),(56,.im (.slice (.slice (.int .i16))) r202),(57,.int .i64 (r202.length : Int)),(58,.int .i64 s.1)]) (fun s=>[(0,some (.cells [.int .i64 p1,.int .i64 p2,.int .i64 p3,.int .i64 p4,.int .i64 p5,.int .i64 p6,.int .i64 p7,.int .i64 p8,.int .i64 p9,.int .i64 p10,.sl 1])),(1,some (.hrow [.p 2 0,.p 3 0])),(2,some (.cells [.int .i64 p11,.im (.slice (.int .i16)) p12,.im (.slice (.int .i16)) p13,.sl 4])),(3,some (.cells [.int .i64 p14,.im (.slice (.int .i16)) p15,.im (.slice (.int .i16)) p16,.sl 5])),(4,some (.rows (.int .i64) s.2.1)),(5,some (.rows (.int .i64) s.2.2.1)),(22806,some (.rr true (.slice (.int .i32)) s.2.2.2 none))]) ?_ ?_
       ·refine TC_blk ?_
        refine TC_seq ?_
        refine nums h3 (fun hx h3=>?_) (fun h3=>?_)
        ·refine TC_num 9 0 hx rfl ?_
         refine TC_num 58 0 hx rfl ?_
         refine TC_renw (A':=[(0,.p 0 0),(8,.sl 22506),(9,.int .i64 0),(10,.im (.slice (.int .i16)) _),(11,.int .i64 _),(56,.im (.slice (.slice (.int .i16))) _),(57,.int .i64 _),(58,.int .i64 0)]) (L':=[(0,some (.cells [.int .i64 _,.int .i64 _,.int .i64 _,.int .i64 _,.int .i64 _,.int .i64 _,.int .i64 _,.int .i64 _,.int .i64 _,.int .i64 _,.sl 1])),(1,some (.hrow [.p 2 0,.p 3 0])),(2,some (.cells [.int .i64 _,.im (.slice (.int .i16)) _,.im (.slice (.int .i16)) _,.sl 4])),(3,some (.cells [.int .i64 _,.im (.slice (.int .i16)) _,.im (.slice (.int .i16)) _,.sl 5])),(4,some (.rows (.int .i64) _)),(5,some (.rows (.int .i64) _)),(22506,some (.rr true (.slice (.int .i32)) _ none))]) [] ⟨rfl,rfl,rfl,rfl,rfl,rfl,rfl,rfl,tv⟩ ⟨rfl,rfl,rfl,rfl,rfl,rfl,rfl,tv⟩ rfl ?_
         refine zd [[],[0],[1,0],[2,1,0],[],[4,3,2,1,0],[5,4,3,2,1,0],[],[],[],[],[10],[11,10],[12,11,10],[13,12,11,10],[14,13,12,11,10,9],[15,14,13,12,11,10,9,8,7],[16,15,14,13,12,11,10,9,8,7,6,5,4,3,2,1,0],[17,16,15,14,13,12,11,10,9,8,7,6,5,4,3,2,1,0],[18,17,16,15,14,13,12,11,10,9,8,7,6,5,4,3,2,1,0],[18,17,16,15,14,13,12,11,10,9,8,7,6,5,4,3,2,1,0],[19,18,17,16,15,14,13,12,11,10,9,8,7,6,5,4,3,2,1,0],[21,20,19,18,17,16,15,14,13,12,11,10,9,8,7,6,5,4,3,2,1,0]] [[],[],[],[],[],[],[],[],[],[],[],[],[],[],[],[],[],[2,4],[],[],[],[],[]] [[],[],[],[],[],[],[],[],[],[],[],[],[],[],[],[],[],[],[],[],[],[],[]] [[],[],[],[],[],[],[],[],[],[],[],[],[],[],[],[],[],[],[],[],[],[],[]] (by kernel_rfl) (by kernel_rfl) ?_
         refine zj 1 rfl rfl rfl tv ?_
         refine zj 2 rfl rfl rfl tv ?_
         refine zj 3 rfl rfl rfl tv ?_
         refine zj 4 rfl rfl rfl ⟨tv,tv⟩ ?_
         refine zj 5 rfl rfl rfl tv ?_
         refine zj 6 rfl rfl rfl ⟨tv,tv,(by decide),(by decide)⟩ ?_
         refine zj 7 rfl rfl rfl ⟨tv,tv⟩ ?_
         refine zj 8 rfl rfl rfl tv ?_
         refine zj 9 rfl rfl rfl tv ?_
         refine zj 10 rfl rfl rfl tv ?_
         refine zj 11 rfl rfl rfl tv ?_
         refine zj 12 rfl rfl rfl tv ?_
         refine zj 13 rfl rfl rfl tv ?_
         refine zj 14 rfl rfl rfl tv ?_
         refine zj 15 rfl rfl rfl ⟨tv,tv⟩ ?_
         refine zj 16 rfl rfl rfl ⟨tv,tv,tv⟩ ?_
         obtain ⟨g,h3⟩:=gd_t h3
         refine zj 17 rfl rfl rfl ⟨tv,tv,tv,g.1,g.2.1,g.2.2⟩ ?_
         obtain ⟨⟨r704,r705,r706⟩,hr,h3⟩:=bnd h3
         refine AJR_call 18 rfl (Nat.le_of_ble_eq_true rfl) [(0,2),(1,4)] rfl (poly_Splitter_Feed.ok0 hr) poly_Splitter_Feed.fnb rfl ⟨tv,⟨tv,⟨tv,tv⟩⟩⟩ rfl ⟨.inr rfl,.inr rfl,tv⟩ rfl ?_
         refine zj 19 rfl rfl rfl tv ?_
         refine zj 20 rfl rfl rfl tv ?_
         refine zj 21 rfl rfl rfl tv ?_
         refine zj 22 rfl rfl rfl tv ?_
         refine zj 23 rfl rfl rfl tv ?_
         refine AJR_end rfl rfl rfl ?_
         refine zt ?_
         obtain ⟨g,h3⟩:=gd_t h3
         refine zv 11 rfl ⟨tv,tv,tv,tv,⟨tv,tv,(by decide),g.1⟩,⟨tv,g.2.1⟩,tv,⟨tv,tv⟩,⟨⟨tv,tv,tv⟩,g.2.2.1⟩,⟨tv,tv,(by decide),g.2.2.2.1⟩,⟨tv,tv,g.2.2.2.2,rfl⟩,tv⟩ ?_
         refine TL_end ?_
         refine tbn ?_
         obtain rfl:=sinj h3
         refine tsn ?_
         exact SP_ren [(22806,22506)] (_,_,_,_) rfl ⟨rfl,rfl,rfl,rfl,rfl,rfl,rfl,rfl,tv⟩ ⟨rfl,rfl,rfl,rfl,rfl,rfl,rfl,tv⟩ rfl
        ·refine nums h3 (fun hx h3=>?_) (fun h3=>?_)
         ·refine TC_num 9 1 hx rfl ?_
          refine TC_num 58 1 hx rfl ?_
          refine TC_renw (A':=[(0,.p 0 0),(8,.sl 22506),(9,.int .i64 1),(10,.im (.slice (.int .i16)) _),(11,.int .i64 _),(56,.im (.slice (.slice (.int .i16))) _),(57,.int .i64 _),(58,.int .i64 1)]) (L':=[(0,some (.cells [.int .i64 _,.int .i64 _,.int .i64 _,.int .i64 _,.int .i64 _,.int .i64 _,.int .i64 _,.int .i64 _,.int .i64 _,.int .i64 _,.sl 1])),(1,some (.hrow [.p 2 0,.p 3 0])),(2,some (.cells [.int .i64 _,.im (.slice (.int .i16)) _,.im (.slice (.int .i16)) _,.sl 4])),(3,some (.cells [.int .i64 _,.im (.slice (.int .i16)) _,.im (.slice (.int .i16)) _,.sl 5])),(4,some (.rows (.int .i64) _)),(5,some (.rows (.int .i64) _)),(22506,some (.rr true (.slice (.int .i32)) _ none))]) [] ⟨rfl,rfl,rfl,rfl,rfl,rfl,rfl,rfl,tv⟩ ⟨rfl,rfl,rfl,rfl,rfl,rfl,rfl,tv⟩ rfl ?_
          refine zd [[],[0],[1,0],[2,1,0],[],[4,3,2,1,0],[5,4,3,2,1,0],[],[],[],[],[10],[11,10],[12,11,10],[13,12,11,10],[14,13,12,11,10,9],[15,14,13,12,11,10,9,8,7],[16,15,14,13,12,11,10,9,8,7,6,5,4,3,2,1,0],[17,16,15,14,13,12,11,10,9,8,7,6,5,4,3,2,1,0],[18,17,16,15,14,13,12,11,10,9,8,7,6,5,4,3,2,1,0],[18,17,16,15,14,13,12,11,10,9,8,7,6,5,4,3,2,1,0],[19,18,17,16,15,14,13,12,11,10,9,8,7,6,5,4,3,2,1,0],[21,20,19,18,17,16,15,14,13,12,11,10,9,8,7,6,5,4,3,2,1,0]] [[],[],[],[],[],[],[],[],[],[],[],[],[],[],[],[],[],[3,5],[],[],[],[],[]] [[],[],[],[],[],[],[],[],[],[],[],[],[],[],[],[],[],[],[],[],[],[],[]] [[],[],[],[],[],[],[],[],[],[],[],[],[],[],[],[],[],[],[],[],[],[],[]] (by kernel_rfl) (by kernel_rfl) ?_
          refine zj 1 rfl rfl rfl tv ?_
          refine zj 2 rfl rfl rfl tv ?_
          refine zj 3 rfl rfl rfl tv ?_
          refine zj 4 rfl rfl rfl ⟨tv,tv⟩ ?_
          refine zj 5 rfl rfl rfl tv ?_
          refine zj 6 rfl rfl rfl ⟨tv,tv,(by decide),(by decide)⟩ ?_
          refine zj 7 rfl rfl rfl ⟨tv,tv⟩ ?_
          refine zj 8 rfl rfl rfl tv ?_
          refine zj 9 rfl rfl rfl tv ?_
          refine zj 10 rfl rfl rfl tv ?_
          refine zj 11 rfl rfl rfl tv ?_
          refine zj 12 rfl rfl rfl tv ?_
          refine zj 13 rfl rfl rfl tv ?_
          refine zj 14 rfl rfl rfl tv ?_
          refine zj 15 rfl rfl rfl ⟨tv,tv⟩ ?_
          refine zj 16 rfl rfl rfl ⟨tv,tv,tv⟩ ?_
          obtain ⟨g,h3⟩:=gd_t h3
          refine zj 17 rfl rfl rfl ⟨tv,tv,tv,g.1,g.2.1,g.2.2⟩ ?_
          obtain ⟨⟨r712,r713,r714⟩,hr,h3⟩:=bnd h3
          refine AJR_call 18 rfl (Nat.le_of_ble_eq_true rfl) [(0,3),(1,5)] rfl (poly_Splitter_Feed.ok0 hr) poly_Splitter_Feed.fnb rfl ⟨tv,⟨tv,⟨tv,tv⟩⟩⟩ rfl ⟨.inr rfl,.inr rfl,tv⟩ rfl ?_
          refine zj 19 rfl rfl rfl tv ?_
          refine zj 20 rfl rfl rfl tv ?_
          refine zj 21 rfl rfl rfl tv ?_
          refine zj 22 rfl rfl rfl tv ?_
          refine zj 23 rfl rfl rfl tv ?_
          refine AJR_end rfl rfl rfl ?_
          refine zt ?_
          obtain ⟨g,h3⟩:=gd_t h3
          refine zv 11 rfl ⟨tv,tv,tv,tv,⟨tv,tv,(by decide),g.1⟩,⟨tv,g.2.1⟩,tv,⟨tv,tv⟩,⟨⟨tv,tv,tv⟩,g.2.2.1⟩,⟨tv,tv,(by decide),g.2.2.2.1⟩,⟨tv,tv,g.2.2.2.2,rfl⟩,tv⟩ ?_
          refine TL_end ?_
          refine tbn ?_
          obtain rfl:=sinj h3
          refine tsn ?_
          exact SP_ren [(22806,22506)] (_,_,_,_) rfl ⟨rfl,rfl,rfl,rfl,rfl,rfl,rfl,rfl,tv⟩ ⟨rfl,rfl,rfl,rfl,rfl,rfl,rfl,tv⟩ rfl
         ·exact (nsome h3).elim
       ·rintro ⟨x697,x698,x699,x700⟩ rfl
        refine zt ?_
        refine zv 8 rfl ⟨tv,tv,tv,tv,tv,⟨tv,tv⟩,⟨tv,tv,tv⟩,tv,tv⟩ ?_
        refine zm ?_
        exact TE_nextr [(22506,22806)] n (zs n) (_,_,_,_,_) h2 ⟨rfl,rfl,rfl,rfl,rfl,rfl,rfl,rfl,tv⟩ ⟨rfl,rfl,rfl,rfl,rfl,rfl,rfl,tv⟩ rfl
      ·replace h2:=bif_f h2 hb
       refine TC_exit ?_
       refine tsx ?_
       refine tsx ?_
       refine tbe ?_
       obtain rfl:=sinj h2
       refine tsn ?_
       exact SP_ren [(22206,22506)] (_,_,_,_) rfl ⟨rfl,rfl,rfl,rfl,rfl,tv⟩ ⟨rfl,rfl,rfl,rfl,rfl,rfl,rfl,tv⟩ rfl
     ·rintro ⟨x654,x655,x656,x657⟩ rfl
      refine tbn ?_
      refine zt ?_
      refine zv 2 rfl ⟨⟨tv,tv,tv⟩,tv,tv⟩ ?_
      refine zm ?_
      exact TE_nextr [(19706,22206)] n (zs n) (_,_,_,_) h1 ⟨rfl,rfl,rfl,rfl,rfl,tv⟩ ⟨rfl,rfl,rfl,rfl,rfl,rfl,rfl,tv⟩ rfl
    ·replace h1:=bif_f h1 hb
     refine TC_exit ?_
     refine tsx ?_
     refine tsx ?_
     refine tbe ?_
     obtain rfl:=sinj h1
     refine tsn ?_
     exact SP_ren [(17406,19706)] (_,_,_) rfl ⟨rfl,rfl,tv⟩ ⟨rfl,rfl,rfl,rfl,rfl,rfl,rfl,tv⟩ rfl
   ·rintro ⟨x392,x393,x394⟩ rfl
    refine zg ?_
    refine zv 5 rfl ⟨tv,tv,tv,⟨tv,tv⟩,tv,tv⟩ ?_
    refine TL_frr 17406 rfl ?_
    obtain ⟨⟨r395,r396,r397,r398⟩,hr,h0⟩:=bnd h0
    refine TL_callB [] (subband_Analyse.ok0 hr) subband_Analyse.fnb rfl ⟨tv,⟨tv,⟨tv,tv⟩⟩⟩ rfl tv rfl ?_
    refine zv 6 rfl ⟨tv,tv,tv,tv,⟨tv,tv⟩,tv,tv⟩ ?_
    refine ze ?_
    refine TC_seq ?_
    refine TC_renw (A':=[(0,.p 0 0),(14,.p 1014 0)]) (L':=[(0,some (.cells [.int .i64 _,.int .i64 _,.int .i64 _,.int .i64 _,.int .i64 _,.int .i64 _,.int .i64 _,.int .i64 _,.int .i64 _,.int .i64 _,.sl 1])),(1,some (.hrow [.p 2 0,.p 3 0])),(2,some (.cells [.int .i64 _,.im (.slice (.int .i16)) _,.im (.slice (.int .i16)) _,.sl 4])),(3,some (.cells [.int .i64 _,.im (.slice (.int .i16)) _,.im (.slice (.int .i16)) _,.sl 5])),(4,some (.rows (.int .i64) _)),(5,some (.rows (.int .i64) _)),(1014,some (.cells [.im (.slice (.int .i64)) _,.im (.slice (.slice (.int .i64))) _,.im (.slice (.slice (.slice (.int .i64)))) _]))]) [] ⟨rfl,rfl,tv⟩ ⟨rfl,rfl,rfl,rfl,rfl,rfl,rfl,tv⟩ rfl ?_
    refine zd [[],[0],[1,0],[2,1,0],[],[4,3,2,1,0],[5,4,3,2,1,0],[5,4,3,2,1,0],[7,6,5,4,3,2,1,0],[8,7,6,5,4,3,2,1,0]] [[],[],[],[],[],[],[],[],[],[]] [[],[],[],[],[],[],[],[],[],[]] [[],[],[],[],[],[],[],[],[],[]] (by kernel_rfl) (by kernel_rfl) ?_
    refine zj 1 rfl rfl rfl tv ?_
    refine zj 2 rfl rfl rfl tv ?_
    refine zj 3 rfl rfl rfl tv ?_
    refine zj 4 rfl rfl rfl ⟨tv,tv⟩ ?_
    refine zj 5 rfl rfl rfl ⟨tv,tv⟩ ?_
    obtain ⟨⟨r399,r400⟩,hr,h0⟩:=bnd h0
    refine AJR_call 6 rfl (Nat.le_of_ble_eq_true rfl) [] rfl (subband_Pack.ok0 hr) subband_Pack.fnb rfl ⟨tv,⟨tv,⟨tv,tv⟩⟩⟩ rfl tv rfl ?_
    refine zj 7 rfl rfl rfl tv ?_
    refine zj 8 rfl rfl rfl tv ?_
    refine zj 9 rfl rfl rfl tv ?_
    refine zj 10 rfl rfl rfl tv ?_
    refine AJR_end rfl rfl rfl ?_
    refine zu ?_
    obtain rfl:=sinj h0
    exact TE_ret env rfl tv ⟨.inr rfl,.inr rfl,.inr rfl,.inr rfl,.inr rfl,.inr rfl,tv⟩
theorem subband_Encoder_Feed_3.ok0 {K : Nat} {p0 : List Int} {p1 p2 p3 p4 p5 p6 p7 p8 p9 p10 p11 : Int} {p12 p13 : List Int} {p14 : Int} {p15 p16 p17 p18 q0 : List Int} {q1 : Int} {q2 q3 : List Int} (h0 : subband_Encoder_Feed_3 K p0 p1 p2 p3 p4 p5 p6 p7 p8 p9 p10 p11 p12 p13 p14 p15 p16 p17 p18 = some (q0,q1,q2,q3)) : Fn Tryz.prog 23 [.p 0 0,.im (.slice (.int .i16)) p0] [(0,some (.cells [.int .i64 p1,.int .i64 p2,.int .i64 p3,.int .i64 p4,.int .i64 p5,.int .i64 p6,.int .i64 p7,.int .i64 p8,.int .i64 p9,.int .i64 p10,.sl 1])),(1,some (.hrow [.p 2 0,.p 3 0])),(2,some (.cells [.int .i64 p11,.im (.slice (.int .i16)) p12,.im (.slice (.int .i16)) p13,.sl 4])),(3,some (.cells [.int .i64 p14,.im (.slice (.int .i16)) p15,.im (.slice (.int .i16)) p16,.sl 5])),(4,some (.rows (.int .i64) p17)),(5,some (.rows (.int .i64) p18))] (.tup [.im (.slice (.int .u8)) q0,.int .i64 q1]) [(0,some (.cells [.int .i64 p1,.int .i64 p2,.int .i64 p3,.int .i64 p4,.int .i64 p5,.int .i64 p6,.int .i64 p7,.int .i64 p8,.int .i64 p9,.int .i64 p10,.sl 1])),(1,some (.hrow [.p 2 0,.p 3 0])),(2,some (.cells [.int .i64 p11,.im (.slice (.int .i16)) p12,.im (.slice (.int .i16)) p13,.sl 4])),(3,some (.cells [.int .i64 p14,.im (.slice (.int .i16)) p15,.im (.slice (.int .i16)) p16,.sl 5])),(4,some (.rows (.int .i64) q2)),(5,some (.rows (.int .i64) q3))]:=subband_Encoder_Feed_3.ok h0
theorem subband_Encoder_Feed_3.fnb : fnb Tryz.prog 23 = true:=fnb_of Tryz.func23 rfl
def psalterylaw14_alive.res  : Bool → MV
 | q0=>.bool q0
def psalterylaw14_alive.out  : Bool → List (Nat × Option MObj)
 | _=>[]
theorem psalterylaw14_alive.ok {K : Nat}  {r : Bool} (h0 : psalterylaw14_alive K  = some r) : Fn Tryz.prog 11 [] [] (psalterylaw14_alive.res  r) (psalterylaw14_alive.out  r):=by
 refine Fn_of Tryz.func11 rfl (Nat.le_of_ble_eq_true rfl) fun Γ=>?_
 unfold psalterylaw14_alive at h0
 refine zr ?_
 refine zv 1 rfl ⟨tv,tv⟩ ?_
 refine zn ?_
 obtain ⟨⟨⟩,hr,h0⟩:=bnd h0
 refine TL_callB [(1000,500100)] (bank_New.ok0 hr) bank_New.fnb rfl ⟨tv,tv⟩ rfl tv rfl ?_
 obtain ⟨⟨⟩,hr,h0⟩:=bnd h0
 refine TL_callB [] (psalterylaw14_plain.ok0 hr) psalterylaw14_plain.fnb rfl ⟨tv,tv⟩ rfl tv rfl ?_
 obtain ⟨z,hr,h0⟩:=bnd h0
 rcases z with r48 | ⟨r49,r50,r51,r52,r53,r54,r55⟩ | ⟨r56,r57,r58,r59,r60,r61,r62,r63,r64,r65,r66⟩
 ·refine TL_callB [(0,500100)] (subband_NewEncoder.ok0 hr) subband_NewEncoder.fnb rfl ⟨tv,⟨tv,⟨tv,tv⟩⟩⟩ rfl ⟨.inr rfl,tv⟩ rfl ?_
  refine zv 5 rfl ⟨tv,tv,tv,tv,tv,tv⟩ ?_
  refine ze ?_
  refine TC_seq ?_
  refine zr ?_
  refine zv 6 rfl ⟨tv,⟨tv,tv,tv⟩,tv,fun eg=>tv,fun eg=>⟨fun e=>e,tv,tv⟩,⟨tv,tv,fun e=>e⟩,tv⟩ ?_
  refine ze ?_
  refine TC_cond rfl (fun hb=>?_) (fun hb=>?_)
  ·replace h0:=bif_t h0 hb
   refine zr ?_
   refine zv 1 rfl ⟨tv,tv⟩ ?_
   refine ze ?_
   refine TC_ret ?_
   refine tsr ?_
   obtain rfl:=sinj h0
   exact TE_ret env rfl tv tv
  ·replace h0:=bif_f h0 hb
   refine TC_skip ?_
   refine zg ?_
   refine zv 2 rfl ⟨tv,⟨tv,tv,(by decide),(by decide),(by decide)⟩,tv⟩ ?_
   refine TL_frz 1023 rfl ?_
   obtain ⟨r68,hr,h0⟩:=bnd h0
   refine TL_callB [] (subband_Encoder_Feed.ok0 hr) subband_Encoder_Feed.fnb rfl ⟨tv,⟨tv,⟨tv,tv⟩⟩⟩ rfl tv rfl ?_
   refine zv 5 rfl ⟨tv,tv,tv,tv,tv,tv⟩ ?_
   refine zn ?_
   refine zv 2 rfl ⟨tv,⟨tv,tv,(by decide),(by decide),(by decide)⟩,tv⟩ ?_
   refine TL_frz 1029 rfl ?_
   obtain ⟨r69,hr,h0⟩:=bnd h0
   refine TL_callB [] (subband_Encoder_Feed.ok0 hr) subband_Encoder_Feed.fnb rfl ⟨tv,⟨tv,⟨tv,tv⟩⟩⟩ rfl tv rfl ?_
   refine zv 5 rfl ⟨tv,tv,tv,tv,tv,tv⟩ ?_
   refine zn ?_
   obtain ⟨⟨⟩,hr,h0⟩:=bnd h0
   refine TL_callB [] (psalterylaw14_plain.ok0 hr) psalterylaw14_plain.fnb rfl ⟨tv,tv⟩ rfl tv rfl ?_
   refine zv 1 rfl ⟨tv,tv⟩ ?_
   obtain ⟨⟨r70,r71,r72,r73⟩,hr,h0⟩:=bnd h0
   refine TL_callB [] (subband_Parse.ok0 hr) subband_Parse.fnb rfl ⟨tv,⟨tv,⟨tv,tv⟩⟩⟩ rfl tv rfl ?_
   refine zv 6 rfl ⟨tv,tv,tv,tv,⟨tv,tv⟩,tv,tv⟩ ?_
   refine zn ?_
   refine zv 3 rfl ⟨tv,⟨tv,tv,tv⟩,tv,tv⟩ ?_
   refine TL_gf (.bool false) rfl rfl rfl rfl rfl (by decide) ?_
   refine TL_gf (.bool false) rfl rfl rfl rfl rfl (by decide) ?_
   refine TL_gf (.bool false) rfl rfl rfl rfl rfl (by decide) ?_
   refine zv 2 rfl ⟨⟨tv,fun e=>e,tv⟩,tv,tv⟩ ?_
   refine TL_gf (.bool false) rfl rfl rfl rfl rfl (by decide) ?_
   refine TL_gf (.bool false) rfl rfl rfl rfl rfl (by decide) ?_
   refine TL_gf (.bool false) rfl rfl rfl rfl rfl (by decide) ?_
   refine TL_gf (.bool false) rfl rfl rfl rfl rfl (by decide) ?_
   refine zv 2 rfl ⟨⟨tv,fun e=>e,tv⟩,tv,tv⟩ ?_
   refine TL_gf (.bool false) rfl rfl rfl rfl rfl (by decide) ?_
   refine TL_gf (.bool false) rfl rfl rfl rfl rfl (by decide) ?_
   refine TL_gf (.bool false) rfl rfl rfl rfl rfl (by decide) ?_
   refine TL_gf (.bool false) rfl rfl rfl rfl rfl (by decide) ?_
   refine zv 2 rfl ⟨⟨tv,fun e=>e,tv⟩,tv,tv⟩ ?_
   refine TL_gf (.bool false) rfl rfl rfl rfl rfl (by decide) ?_
   refine TL_gf (.bool false) rfl rfl rfl rfl rfl (by decide) ?_
   refine TL_gf (.bool false) rfl rfl rfl rfl rfl (by decide) ?_
   refine TL_gf (.bool false) rfl rfl rfl rfl rfl (by decide) ?_
   refine zv 2 rfl ⟨⟨tv,fun e=>e,tv⟩,tv,tv⟩ ?_
   refine TL_gf (.bool false) rfl rfl rfl rfl rfl (by decide) ?_
   refine TL_gf (.bool false) rfl rfl rfl rfl rfl (by decide) ?_
   refine zv 2 rfl ⟨⟨tv,fun e=>e,tv⟩,tv,tv⟩ ?_
   refine TL_gf (.bool false) rfl rfl rfl rfl rfl (by decide) ?_
   refine TL_gf (.bool false) rfl rfl rfl rfl rfl (by decide) ?_
   refine zv 2 rfl ⟨⟨tv,fun e=>e,tv⟩,tv,tv⟩ ?_
   refine TL_gf (.bool false) rfl rfl rfl rfl rfl (by decide) ?_
   refine TL_gf (.bool false) rfl rfl rfl rfl rfl (by decide) ?_
   refine TL_gf (.bool false) rfl rfl rfl rfl rfl (by decide) ?_
   refine TL_gf (.bool false) rfl rfl rfl rfl rfl (by decide) ?_
   refine zv 2 rfl ⟨⟨tv,fun e=>e,tv⟩,tv,tv⟩ ?_
   refine ze ?_
   refine TC_ret ?_
   obtain rfl:=sinj h0
   exact TE_ret env rfl tv tv
 ·refine TL_callB [(0,500100),(1000,500120),(1001,500121),(1002,500122),(1003,500123)] (subband_NewEncoder.ok1 hr) subband_NewEncoder.fnb rfl ⟨tv,⟨tv,⟨tv,tv⟩⟩⟩ rfl ⟨.inr rfl,tv⟩ rfl ?_
  refine zv 5 rfl ⟨tv,tv,tv,tv,tv,tv⟩ ?_
  refine ze ?_
  refine TC_seq ?_
  refine zr ?_
  refine zv 3 rfl ⟨tv,⟨tv,tv,tv⟩,tv,tv⟩ ?_
  refine TL_gt rfl rfl rfl rfl ?_
  refine zv 1 rfl ⟨tv,tv⟩ ?_
  refine TL_gt rfl rfl rfl rfl ?_
  refine zv 2 rfl ⟨⟨tv,tv,tv⟩,⟨tv,tv,tv⟩,tv⟩ ?_
  refine ze ?_
  refine TC_cond rfl (fun hb=>?_) (fun hb=>?_)
  ·first | exact (ftf hb).elim | exact (tff hb).elim | exact absurd hb (by decide)
  ·refine TC_skip ?_
   refine zg ?_
   refine zv 2 rfl ⟨tv,⟨tv,tv,(by decide),(by decide),(by decide)⟩,tv⟩ ?_
   refine TL_frz 1023 rfl ?_
   obtain ⟨⟨r74,r75,r76⟩,hr,h0⟩:=bnd h0
   refine TL_callB [(0,500120),(1,500121),(2,500122),(3,500123)] (subband_Encoder_Feed_2.ok0 hr) subband_Encoder_Feed_2.fnb rfl ⟨tv,⟨tv,⟨tv,tv⟩⟩⟩ rfl ⟨.inr rfl,.inr rfl,.inr rfl,.inr rfl,tv⟩ rfl ?_
   refine zv 5 rfl ⟨tv,tv,tv,tv,tv,tv⟩ ?_
   refine zn ?_
   refine zv 2 rfl ⟨tv,⟨tv,tv,(by decide),(by decide),(by decide)⟩,tv⟩ ?_
   refine TL_frz 1029 rfl ?_
   obtain ⟨⟨r77,r78,r79⟩,hr,h0⟩:=bnd h0
   refine TL_callB [(0,500120),(1,500121),(2,500122),(3,500123)] (subband_Encoder_Feed_2.ok0 hr) subband_Encoder_Feed_2.fnb rfl ⟨tv,⟨tv,⟨tv,tv⟩⟩⟩ rfl ⟨.inr rfl,.inr rfl,.inr rfl,.inr rfl,tv⟩ rfl ?_
   refine zv 5 rfl ⟨tv,tv,tv,tv,tv,tv⟩ ?_
   refine zn ?_
   obtain ⟨⟨⟩,hr,h0⟩:=bnd h0
   refine TL_callB [] (psalterylaw14_plain.ok0 hr) psalterylaw14_plain.fnb rfl ⟨tv,tv⟩ rfl tv rfl ?_
   refine zv 1 rfl ⟨tv,tv⟩ ?_
   obtain ⟨⟨r80,r81,r82,r83⟩,hr,h0⟩:=bnd h0
   refine TL_callB [] (subband_Parse.ok0 hr) subband_Parse.fnb rfl ⟨tv,⟨tv,⟨tv,tv⟩⟩⟩ rfl tv rfl ?_
   refine zv 6 rfl ⟨tv,tv,tv,tv,⟨tv,tv⟩,tv,tv⟩ ?_
   refine zn ?_
   obtain ⟨g,h0⟩:=gd_t h0
   refine zv 40 rfl ⟨tv,⟨tv,tv,tv⟩,tv,fun eg=>tv,fun eg=>⟨fun e=>e,tv⟩,fun eg=>⟨fun e=>e,tv,tv⟩,⟨tv,fun e=>e,tv⟩,tv,fun eg=>tv,fun eg=>⟨fun e=>e,tv,(by decide),(g.1 eg)⟩,fun eg=>⟨fun e=>e,tv⟩,fun eg=>⟨fun e=>e,tv,tv⟩,⟨tv,fun e=>e,tv⟩,tv,fun eg=>tv,fun eg=>⟨fun e=>e,tv,(by decide),(g.2.1 eg)⟩,fun eg=>⟨fun e=>e,tv⟩,fun eg=>⟨fun e=>e,tv,tv⟩,⟨tv,fun e=>e,tv⟩,tv,fun eg=>tv,fun eg=>⟨fun e=>e,tv,(by decide),(g.2.2 eg)⟩,fun eg=>⟨fun e=>e,tv⟩,fun eg=>⟨fun e=>e,tv,tv⟩,⟨tv,fun e=>e,tv⟩,tv,fun eg=>tv,fun eg=>⟨fun e=>e,tv,tv⟩,⟨tv,fun e=>e,tv⟩,tv,fun eg=>tv,fun eg=>⟨fun e=>e,tv,tv⟩,⟨tv,fun e=>e,tv⟩,tv,fun eg=>tv,fun eg=>⟨fun e=>e,tv⟩,fun eg=>⟨fun e=>e,tv⟩,fun eg=>⟨fun e=>e,tv,tv⟩,⟨tv,fun e=>e,tv⟩,tv,tv⟩ ?_
   refine ze ?_
   refine TC_ret ?_
   obtain rfl:=sinj h0
   exact TE_ret env rfl tv tv
 ·refine TL_callB [(0,500100),(1000,500120),(1001,500121),(1002,500122),(1003,500123),(1004,500124),(1005,500125)] (subband_NewEncoder.ok2 hr) subband_NewEncoder.fnb rfl ⟨tv,⟨tv,⟨tv,tv⟩⟩⟩ rfl ⟨.inr rfl,tv⟩ rfl ?_
  refine zv 5 rfl ⟨tv,tv,tv,tv,tv,tv⟩ ?_
  refine ze ?_
  refine TC_seq ?_
  refine zr ?_
  refine zv 3 rfl ⟨tv,⟨tv,tv,tv⟩,tv,tv⟩ ?_
  refine TL_gt rfl rfl rfl rfl ?_
  refine zv 1 rfl ⟨tv,tv⟩ ?_
  refine TL_gt rfl rfl rfl rfl ?_
  refine zv 2 rfl ⟨⟨tv,tv,tv⟩,⟨tv,tv,tv⟩,tv⟩ ?_
  refine ze ?_
  refine TC_cond rfl (fun hb=>?_) (fun hb=>?_)
  ·first | exact (ftf hb).elim | exact (tff hb).elim | exact absurd hb (by decide)
  ·refine TC_skip ?_
   refine zg ?_
   refine zv 2 rfl ⟨tv,⟨tv,tv,(by decide),(by decide),(by decide)⟩,tv⟩ ?_
   refine TL_frz 1023 rfl ?_
   obtain ⟨⟨r96,r97,r98,r99⟩,hr,h0⟩:=bnd h0
   refine TL_callB [(0,500120),(1,500121),(2,500122),(3,500123),(4,500124),(5,500125)] (subband_Encoder_Feed_3.ok0 hr) subband_Encoder_Feed_3.fnb rfl ⟨tv,⟨tv,⟨tv,tv⟩⟩⟩ rfl ⟨.inr rfl,.inr rfl,.inr rfl,.inr rfl,.inr rfl,.inr rfl,tv⟩ rfl ?_
   refine zv 5 rfl ⟨tv,tv,tv,tv,tv,tv⟩ ?_
   refine zn ?_
   refine zv 2 rfl ⟨tv,⟨tv,tv,(by decide),(by decide),(by decide)⟩,tv⟩ ?_
   refine TL_frz 1029 rfl ?_
   obtain ⟨⟨r100,r101,r102,r103⟩,hr,h0⟩:=bnd h0
   refine TL_callB [(0,500120),(1,500121),(2,500122),(3,500123),(4,500124),(5,500125)] (subband_Encoder_Feed_3.ok0 hr) subband_Encoder_Feed_3.fnb rfl ⟨tv,⟨tv,⟨tv,tv⟩⟩⟩ rfl ⟨.inr rfl,.inr rfl,.inr rfl,.inr rfl,.inr rfl,.inr rfl,tv⟩ rfl ?_
   refine zv 5 rfl ⟨tv,tv,tv,tv,tv,tv⟩ ?_
   refine zn ?_
   obtain ⟨⟨⟩,hr,h0⟩:=bnd h0
   refine TL_callB [] (psalterylaw14_plain.ok0 hr) psalterylaw14_plain.fnb rfl ⟨tv,tv⟩ rfl tv rfl ?_
   refine zv 1 rfl ⟨tv,tv⟩ ?_
   obtain ⟨⟨r104,r105,r106,r107⟩,hr,h0⟩:=bnd h0
   refine TL_callB [] (subband_Parse.ok0 hr) subband_Parse.fnb rfl ⟨tv,⟨tv,⟨tv,tv⟩⟩⟩ rfl tv rfl ?_
   refine zv 6 rfl ⟨tv,tv,tv,tv,⟨tv,tv⟩,tv,tv⟩ ?_
   refine zn ?_
   obtain ⟨g,h0⟩:=gd_t h0
   refine zv 40 rfl ⟨tv,⟨tv,tv,tv⟩,tv,fun eg=>tv,fun eg=>⟨fun e=>e,tv⟩,fun eg=>⟨fun e=>e,tv,tv⟩,⟨tv,fun e=>e,tv⟩,tv,fun eg=>tv,fun eg=>⟨fun e=>e,tv,(by decide),(g.1 eg)⟩,fun eg=>⟨fun e=>e,tv⟩,fun eg=>⟨fun e=>e,tv,tv⟩,⟨tv,fun e=>e,tv⟩,tv,fun eg=>tv,fun eg=>⟨fun e=>e,tv,(by decide),(g.2.1 eg)⟩,fun eg=>⟨fun e=>e,tv⟩,fun eg=>⟨fun e=>e,tv,tv⟩,⟨tv,fun e=>e,tv⟩,tv,fun eg=>tv,fun eg=>⟨fun e=>e,tv,(by decide),(g.2.2 eg)⟩,fun eg=>⟨fun e=>e,tv⟩,fun eg=>⟨fun e=>e,tv,tv⟩,⟨tv,fun e=>e,tv⟩,tv,fun eg=>tv,fun eg=>⟨fun e=>e,tv,tv⟩,⟨tv,fun e=>e,tv⟩,tv,fun eg=>tv,fun eg=>⟨fun e=>e,tv,tv⟩,⟨tv,fun e=>e,tv⟩,tv,fun eg=>tv,fun eg=>⟨fun e=>e,tv⟩,fun eg=>⟨fun e=>e,tv⟩,fun eg=>⟨fun e=>e,tv,tv⟩,⟨tv,fun e=>e,tv⟩,tv,tv⟩ ?_
   refine ze ?_
   refine TC_ret ?_
   obtain rfl:=sinj h0
   exact TE_ret env rfl tv tv
theorem psalterylaw14_alive.ok0 {K : Nat}  {q0 : Bool} (h0 : psalterylaw14_alive K  = some q0) : Fn Tryz.prog 11 [] [] (.bool q0) []:=psalterylaw14_alive.ok h0
theorem psalterylaw14_alive.fnb : fnb Tryz.prog 11 = true:=fnb_of Tryz.func11 rfl
def subband_Encoder_Reset.res  : Unit → MV
 | ()=>.tup []
def subband_Encoder_Reset.out  : Unit → List (Nat × Option MObj)
 | ()=>[]
theorem subband_Encoder_Reset.ok {K : Nat}  {r : Unit} (h0 : subband_Encoder_Reset K  = some r) : Fn Tryz.prog 33 [.nilp] [] (subband_Encoder_Reset.res  r) (subband_Encoder_Reset.out  r):=by
 refine Fn_of Tryz.func33 rfl (Nat.le_of_ble_eq_true rfl) fun Γ=>?_
 refine zr ?_
 refine zv 2 rfl ⟨tv,⟨tv,tv,tv⟩,tv⟩ ?_
 refine ze ?_
 refine TC_cond rfl (fun hb=>?_) (fun hb=>?_)
 ·first | exact (ftf hb).elim | exact (tff hb).elim | exact absurd hb (by decide)
 ·refine TC_skip ?_
  obtain rfl:=sinj h0
  exact TE_end env rfl tv tv
theorem subband_Encoder_Reset.ok0 {K : Nat}   (h0 : subband_Encoder_Reset K  = some ()) : Fn Tryz.prog 33 [.nilp] [] (.tup []) []:=subband_Encoder_Reset.ok h0
theorem subband_Encoder_Reset.fnb : fnb Tryz.prog 33 = true:=fnb_of Tryz.func33 rfl
def subband_Decoder_Reset.res  : Unit → MV
 | ()=>.tup []
def subband_Decoder_Reset.out  : Unit → List (Nat × Option MObj)
 | ()=>[]
theorem subband_Decoder_Reset.ok {K : Nat}  {r : Unit} (h0 : subband_Decoder_Reset K  = some r) : Fn Tryz.prog 38 [.nilp] [] (subband_Decoder_Reset.res  r) (subband_Decoder_Reset.out  r):=by
 refine Fn_of Tryz.func38 rfl (Nat.le_of_ble_eq_true rfl) fun Γ=>?_
 refine zr ?_
 refine zv 2 rfl ⟨tv,⟨tv,tv,tv⟩,tv⟩ ?_
 refine ze ?_
 refine TC_cond rfl (fun hb=>?_) (fun hb=>?_)
 ·first | exact (ftf hb).elim | exact (tff hb).elim | exact absurd hb (by decide)
 ·refine TC_skip ?_
  obtain rfl:=sinj h0
  exact TE_end env rfl tv tv
theorem subband_Decoder_Reset.ok0 {K : Nat}   (h0 : subband_Decoder_Reset K  = some ()) : Fn Tryz.prog 38 [.nilp] [] (.tup []) []:=subband_Decoder_Reset.ok h0
theorem subband_Decoder_Reset.fnb : fnb Tryz.prog 38 = true:=fnb_of Tryz.func38 rfl
def subband_Decoder_Play.res  : (List Int) → MV
 | q0=>.tup [.im (.slice (.int .i16)) q0,.int .i64 3]
def subband_Decoder_Play.out  : (List Int) → List (Nat × Option MObj)
 | _=>[]
theorem subband_Decoder_Play.ok {K : Nat}  {r : (List Int)} (h0 : subband_Decoder_Play K  = some r) : Fn Tryz.prog 35 [.nilp,.nils] [] (subband_Decoder_Play.res  r) (subband_Decoder_Play.out  r):=by
 refine Fn_of Tryz.func35 rfl (Nat.le_of_ble_eq_true rfl) fun Γ=>?_
 refine zr ?_
 refine zv 2 rfl ⟨tv,tv,tv⟩ ?_
 refine ze ?_
 refine TC_seq ?_
 refine TC_blk ?_
 refine zr ?_
 refine zv 3 rfl ⟨tv,⟨tv,tv,tv⟩,tv,tv⟩ ?_
 refine ze ?_
 refine TC_cond rfl (fun hb=>?_) (fun hb=>?_)
 ·refine zr ?_
  refine zv 2 rfl ⟨tv,tv,tv⟩ ?_
  refine ze ?_
  refine TC_ret ?_
  refine tbr ?_
  refine tsr ?_
  refine TE_imn 4 (.int .i16) rfl ?_
  obtain rfl:=sinj h0
  exact TE_ret env rfl tv tv
 ·first | exact (ftf hb).elim | exact (tff hb).elim | exact absurd hb (by decide)
theorem subband_Decoder_Play.ok0 {K : Nat}  {q0 : List Int} (h0 : subband_Decoder_Play K  = some q0) : Fn Tryz.prog 35 [.nilp,.nils] [] (.tup [.im (.slice (.int .i16)) q0,.int .i64 3]) []:=subband_Decoder_Play.ok h0
theorem subband_Decoder_Play.fnb : fnb Tryz.prog 35 = true:=fnb_of Tryz.func35 rfl
def bank_Bank_may_2.res (_p0 : Bool) : Unit → MV
 | ()=>.int .i64 3
def bank_Bank_may_2.out (_p0 : Bool) : Unit → List (Nat × Option MObj)
 | ()=>[]
theorem bank_Bank_may_2.ok {K : Nat} {p0 : Bool} {r : Unit} (h0 : bank_Bank_may_2 K p0 = some r) : Fn Tryz.prog 190 [.nilp,.bool p0] [] (bank_Bank_may_2.res p0 r) (bank_Bank_may_2.out p0 r):=by
 refine Fn_of Tryz.func190 rfl (Nat.le_of_ble_eq_true rfl) fun Γ=>?_
 refine zr ?_
 refine zv 1 rfl ⟨tv,tv⟩ ?_
 refine ze ?_
 refine TC_seq ?_
 refine TC_blk ?_
 refine zr ?_
 refine zv 3 rfl ⟨tv,⟨tv,tv,tv⟩,tv,tv⟩ ?_
 refine ze ?_
 refine TC_cond rfl (fun hb=>?_) (fun hb=>?_)
 ·refine zr ?_
  refine zv 1 rfl ⟨tv,tv⟩ ?_
  refine ze ?_
  refine TC_ret ?_
  refine tbr ?_
  refine tsr ?_
  obtain rfl:=sinj h0
  exact TE_ret env rfl tv tv
 ·first | exact (ftf hb).elim | exact (tff hb).elim | exact absurd hb (by decide)
theorem bank_Bank_may_2.ok0 {K : Nat} {p0 : Bool}  (h0 : bank_Bank_may_2 K p0 = some ()) : Fn Tryz.prog 190 [.nilp,.bool p0] [] (.int .i64 3) []:=bank_Bank_may_2.ok h0
theorem bank_Bank_may_2.fnb : fnb Tryz.prog 190 = true:=fnb_of Tryz.func190 rfl
def bank_Bank_Filter_2.res (_p0 : Int) : (List Int) → MV
 | q0=>.tup [.im (.slice (.int .i16)) q0,.int .i64 3]
def bank_Bank_Filter_2.out (_p0 : Int) : (List Int) → List (Nat × Option MObj)
 | _=>[]
theorem bank_Bank_Filter_2.ok {K : Nat} {p0 : Int} {r : (List Int)} (h0 : bank_Bank_Filter_2 K p0 = some r) : Fn Tryz.prog 168 [.nilp,.int .i64 p0] [] (bank_Bank_Filter_2.res p0 r) (bank_Bank_Filter_2.out p0 r):=by
 refine Fn_of Tryz.func168 rfl (Nat.le_of_ble_eq_true rfl) fun Γ=>?_
 unfold bank_Bank_Filter_2 at h0
 refine zr ?_
 refine zv 3 rfl ⟨tv,tv,tv,tv⟩ ?_
 refine ze ?_
 refine TC_seq ?_
 refine zr ?_
 refine zv 7 rfl ⟨tv,⟨tv,tv⟩,⟨tv,tv,tv⟩,tv,fun eg=>⟨tv,tv⟩,fun eg=>⟨fun e=>e,tv,tv⟩,⟨tv,tv,fun e=>e⟩,tv⟩ ?_
 obtain ⟨⟨⟩,hr,h0⟩:=bnd h0
 refine TL_callB [] (bank_Bank_may_2.ok0 hr) bank_Bank_may_2.fnb rfl ⟨tv,⟨tv,⟨tv,tv⟩⟩⟩ rfl tv rfl ?_
 refine zv 1 rfl ⟨tv,tv⟩ ?_
 refine zn ?_
 refine zv 2 rfl ⟨tv,⟨tv,tv,tv⟩,tv⟩ ?_
 refine ze ?_
 refine TC_cond rfl (fun hb=>?_) (fun hb=>?_)
 ·refine zr ?_
  refine zv 3 rfl ⟨tv,tv,tv,tv⟩ ?_
  refine ze ?_
  refine TC_ret ?_
  refine tsr ?_
  refine TE_imn 4 (.int .i16) rfl ?_
  obtain rfl:=sinj h0
  exact TE_ret env rfl tv tv
 ·first | exact (ftf hb).elim | exact (tff hb).elim | exact absurd hb (by decide)
theorem bank_Bank_Filter_2.ok0 {K : Nat} {p0 : Int} {q0 : List Int} (h0 : bank_Bank_Filter_2 K p0 = some q0) : Fn Tryz.prog 168 [.nilp,.int .i64 p0] [] (.tup [.im (.slice (.int .i16)) q0,.int .i64 3]) []:=bank_Bank_Filter_2.ok h0
theorem bank_Bank_Filter_2.fnb : fnb Tryz.prog 168 = true:=fnb_of Tryz.func168 rfl
def poly_tables_2.res (_p0 : Int) : (List Int) → MV
 | q0=>.tup [.agg [.int .i64 0,.im (.slice (.int .i16)) q0,.im (.slice (.int .i16)) q0],.int .i64 3]
def poly_tables_2.out (_p0 : Int) : (List Int) → List (Nat × Option MObj)
 | _=>[]
theorem poly_tables_2.ok {K : Nat} {p0 : Int} {r : (List Int)} (h0 : poly_tables_2 K p0 = some r) : Fn Tryz.prog 124 [.nilp,.int .i64 p0] [] (poly_tables_2.res p0 r) (poly_tables_2.out p0 r):=by
 refine Fn_of Tryz.func124 rfl (Nat.le_of_ble_eq_true rfl) fun Γ=>?_
 refine zr ?_
 refine zv 2 rfl ⟨tv,tv,tv⟩ ?_
 refine zn ?_
 refine zv 2 rfl ⟨tv,tv,tv⟩ ?_
 obtain ⟨r2,hr,h0⟩:=bnd h0
 refine TL_callB [] (bank_Bank_Filter_2.ok0 hr) bank_Bank_Filter_2.fnb rfl ⟨tv,⟨tv,⟨tv,tv⟩⟩⟩ rfl tv rfl ?_
 refine zv 5 rfl ⟨tv,tv,tv,tv,tv,tv⟩ ?_
 refine ze ?_
 refine TC_seq ?_
 refine zr ?_
 refine zv 2 rfl ⟨tv,⟨tv,tv,tv⟩,tv⟩ ?_
 refine ze ?_
 refine TC_cond rfl (fun hb=>?_) (fun hb=>?_)
 ·refine zr ?_
  refine zv 4 rfl ⟨tv,tv,⟨tv,tv⟩,tv,tv⟩ ?_
  refine ze ?_
  refine TC_ret ?_
  refine tsr ?_
  refine TE_imnC 1004 1 (.int .i16) rfl rfl ?_
  refine TE_imnC 1004 2 (.int .i16) rfl rfl ?_
  obtain rfl:=sinj h0
  exact TE_ret env rfl ⟨tv,tv⟩ tv
 ·first | exact (ftf hb).elim | exact (tff hb).elim | exact absurd hb (by decide)
theorem poly_tables_2.ok0 {K : Nat} {p0 : Int} {q0 : List Int} (h0 : poly_tables_2 K p0 = some q0) : Fn Tryz.prog 124 [.nilp,.int .i64 p0] [] (.tup [.agg [.int .i64 0,.im (.slice (.int .i16)) q0,.im (.slice (.int .i16)) q0],.int .i64 3]) []:=poly_tables_2.ok h0
theorem poly_tables_2.fnb : fnb Tryz.prog 124 = true:=fnb_of Tryz.func124 rfl
def poly_NewSplitter_2.res (_p0 : Int) : Unit → MV
 | ()=>.tup [.nilp,.int .i64 3]
def poly_NewSplitter_2.out (_p0 : Int) : Unit → List (Nat × Option MObj)
 | ()=>[]
theorem poly_NewSplitter_2.ok {K : Nat} {p0 : Int} {r : Unit} (h0 : poly_NewSplitter_2 K p0 = some r) : Fn Tryz.prog 68 [.nilp,.int .i64 p0] [] (poly_NewSplitter_2.res p0 r) (poly_NewSplitter_2.out p0 r):=by
 refine Fn_of Tryz.func68 rfl (Nat.le_of_ble_eq_true rfl) fun Γ=>?_
 unfold poly_NewSplitter_2 at h0
 refine zr ?_
 refine zv 2 rfl ⟨tv,tv,tv⟩ ?_
 refine zn ?_
 refine zv 2 rfl ⟨tv,tv,tv⟩ ?_
 obtain ⟨r2,hr,h0⟩:=bnd h0
 refine TL_callB [] (poly_tables_2.ok0 hr) poly_tables_2.fnb rfl ⟨tv,⟨tv,⟨tv,tv⟩⟩⟩ rfl tv rfl ?_
 refine zv 6 rfl ⟨tv,tv,tv,tv,⟨tv,tv⟩,tv,tv⟩ ?_
 refine ze ?_
 refine TC_seq ?_
 refine zr ?_
 refine zv 2 rfl ⟨tv,⟨tv,tv,tv⟩,tv⟩ ?_
 refine ze ?_
 refine TC_cond rfl (fun hb=>?_) (fun hb=>?_)
 ·refine zr ?_
  refine zv 3 rfl ⟨tv,tv,tv,tv⟩ ?_
  refine ze ?_
  refine TC_ret ?_
  refine tsr ?_
  obtain rfl:=sinj h0
  exact TE_ret env rfl tv tv
 ·first | exact (ftf hb).elim | exact (tff hb).elim | exact absurd hb (by decide)
theorem poly_NewSplitter_2.ok0 {K : Nat} {p0 : Int}  (h0 : poly_NewSplitter_2 K p0 = some ()) : Fn Tryz.prog 68 [.nilp,.int .i64 p0] [] (.tup [.nilp,.int .i64 3]) []:=poly_NewSplitter_2.ok h0
theorem poly_NewSplitter_2.fnb : fnb Tryz.prog 68 = true:=fnb_of Tryz.func68 rfl
def subband_NewEncoder_2.res (_p0 _p1 _p2 _p3 _p4 _p5 _p6 _p7 _p8 _p9 : Int) : Int → MV
 | q0=>.tup [.nilp,.int .i64 q0]
def subband_NewEncoder_2.out (_p0 _p1 _p2 _p3 _p4 _p5 _p6 _p7 _p8 _p9 : Int) : Int → List (Nat × Option MObj)
 | _=>[]
theorem subband_NewEncoder_2.ok {K : Nat} {p0 p1 p2 p3 p4 p5 p6 p7 p8 p9 r : Int} (h0 : subband_NewEncoder_2 K p0 p1 p2 p3 p4 p5 p6 p7 p8 p9 = some r) : Fn Tryz.prog 20 [.nilp,.agg [.int .i64 p0,.int .i64 p1,.int .i64 p2,.int .i64 p3,.int .i64 p4,.int .i64 p5,.int .i64 p6,.int .i64 p7,.int .i64 p8,.int .i64 p9]] [] (subband_NewEncoder_2.res p0 p1 p2 p3 p4 p5 p6 p7 p8 p9 r) (subband_NewEncoder_2.out p0 p1 p2 p3 p4 p5 p6 p7 p8 p9 r):=by
 refine Fn_of Tryz.func20 rfl (Nat.le_of_ble_eq_true rfl) fun Γ=>?_
 refine zr ?_
 refine zv 3 rfl ⟨tv,tv,tv,tv⟩ ?_
 refine ze ?_
 refine TC_seq ?_
 refine zr ?_
 refine zv 1 rfl ⟨⟨tv,tv⟩,tv⟩ ?_
 obtain ⟨r2,hr,h0⟩:=bnd h0
 refine TL_callB [] (subband_may.ok0 hr) subband_may.fnb rfl ⟨tv,⟨tv,tv⟩⟩ rfl tv rfl ?_
 refine zv 1 rfl ⟨tv,tv⟩ ?_
 refine zn ?_
 refine zv 2 rfl ⟨tv,⟨tv,tv,tv⟩,tv⟩ ?_
 refine ze ?_
 refine TC_cond rfl (fun hb=>?_) (fun hb=>?_)
 ·replace h0:=bif_t h0 hb
  refine zr ?_
  refine zv 3 rfl ⟨tv,tv,tv,tv⟩ ?_
  refine ze ?_
  refine TC_ret ?_
  refine tsr ?_
  obtain rfl:=sinj h0
  exact TE_ret env rfl tv tv
 ·replace h0:=bif_f h0 hb
  refine TC_skip ?_
  refine zg ?_
  refine zv 4 rfl ⟨⟨tv,tv⟩,⟨tv,tv⟩,tv,tv,tv⟩ ?_
  refine ze ?_
  refine TC_seq ?_
  refine zr ?_
  refine zv 3 rfl ⟨tv,⟨tv,tv⟩,tv,tv⟩ ?_
  refine ze ?_
  refine TC_blk ?_
  refine nums h0 (fun hx h0=>?_) (fun h0=>?_)
  ·refine TC_num 19 1 hx rfl ?_
   refine TC_numC 1003 2 1 hx rfl rfl ?_
   refine TC_numC 1017 2 1 hx rfl rfl ?_
   refine TC_loopU ?_
   refine TE_lb ?_
   refine zr ?_
   refine zv 1 rfl ⟨⟨tv,tv,tv⟩,tv⟩ ?_
   refine ze ?_
   refine TC_seq ?_
   refine TC_cond rfl (fun hb=>?_) (fun hb=>?_)
   ·refine TC_skip ?_
    refine TE_go ?_
    refine TC_seq ?_
    refine TC_blk ?_
    refine zr ?_
    refine zv 3 rfl ⟨tv,tv,⟨tv,tv⟩,tv⟩ ?_
    obtain ⟨⟨⟩,hr,h0⟩:=bnd h0
    refine TL_callB [] (poly_NewSplitter_2.ok0 hr) poly_NewSplitter_2.fnb rfl ⟨tv,⟨tv,⟨tv,tv⟩⟩⟩ rfl tv rfl ?_
    refine zv 5 rfl ⟨tv,tv,tv,tv,tv,tv⟩ ?_
    refine ze ?_
    refine TC_seq ?_
    refine zr ?_
    refine zv 2 rfl ⟨tv,⟨tv,tv,tv⟩,tv⟩ ?_
    refine ze ?_
    refine TC_cond rfl (fun hb=>?_) (fun hb=>?_)
    ·refine zr ?_
     refine zv 3 rfl ⟨tv,tv,tv,tv⟩ ?_
     refine ze ?_
     refine TC_ret ?_
     refine tsr ?_
     refine tbr ?_
     refine tsr ?_
     refine tsr ?_
     refine tbr ?_
     refine tsr ?_
     obtain rfl:=sinj h0
     exact TE_ret env rfl tv tv
    ·first | exact (ftf hb).elim | exact (tff hb).elim | exact absurd hb (by decide)
   ·first | exact (ftf hb).elim | exact (tff hb).elim | exact absurd hb (by decide)
  ·refine nums h0 (fun hx h0=>?_) (fun h0=>?_)
   ·refine TC_num 19 2 hx rfl ?_
    refine TC_numC 1003 2 2 hx rfl rfl ?_
    refine TC_numC 1017 2 2 hx rfl rfl ?_
    refine TC_loopU ?_
    refine TE_lb ?_
    refine zr ?_
    refine zv 1 rfl ⟨⟨tv,tv,tv⟩,tv⟩ ?_
    refine ze ?_
    refine TC_seq ?_
    refine TC_cond rfl (fun hb=>?_) (fun hb=>?_)
    ·refine TC_skip ?_
     refine TE_go ?_
     refine TC_seq ?_
     refine TC_blk ?_
     refine zr ?_
     refine zv 3 rfl ⟨tv,tv,⟨tv,tv⟩,tv⟩ ?_
     obtain ⟨⟨⟩,hr,h0⟩:=bnd h0
     refine TL_callB [] (poly_NewSplitter_2.ok0 hr) poly_NewSplitter_2.fnb rfl ⟨tv,⟨tv,⟨tv,tv⟩⟩⟩ rfl tv rfl ?_
     refine zv 5 rfl ⟨tv,tv,tv,tv,tv,tv⟩ ?_
     refine ze ?_
     refine TC_seq ?_
     refine zr ?_
     refine zv 2 rfl ⟨tv,⟨tv,tv,tv⟩,tv⟩ ?_
     refine ze ?_
     refine TC_cond rfl (fun hb=>?_) (fun hb=>?_)
     ·refine zr ?_
      refine zv 3 rfl ⟨tv,tv,tv,tv⟩ ?_
      refine ze ?_
      refine TC_ret ?_
      refine tsr ?_
      refine tbr ?_
      refine tsr ?_
      refine tsr ?_
      refine tbr ?_
      refine tsr ?_
      obtain rfl:=sinj h0
      exact TE_ret env rfl tv tv
     ·first | exact (ftf hb).elim | exact (tff hb).elim | exact absurd hb (by decide)
    ·first | exact (ftf hb).elim | exact (tff hb).elim | exact absurd hb (by decide)
   ·exact (nsome h0).elim
theorem subband_NewEncoder_2.ok0 {K : Nat} {p0 p1 p2 p3 p4 p5 p6 p7 p8 p9 q0 : Int} (h0 : subband_NewEncoder_2 K p0 p1 p2 p3 p4 p5 p6 p7 p8 p9 = some q0) : Fn Tryz.prog 20 [.nilp,.agg [.int .i64 p0,.int .i64 p1,.int .i64 p2,.int .i64 p3,.int .i64 p4,.int .i64 p5,.int .i64 p6,.int .i64 p7,.int .i64 p8,.int .i64 p9]] [] (.tup [.nilp,.int .i64 q0]) []:=subband_NewEncoder_2.ok h0
theorem subband_NewEncoder_2.fnb : fnb Tryz.prog 20 = true:=fnb_of Tryz.func20 rfl
def poly_NewJoiner.res (_p0 : Int) : Unit → MV
 | ()=>.tup [.nilp,.int .i64 3]
def poly_NewJoiner.out (_p0 : Int) : Unit → List (Nat × Option MObj)
 | ()=>[]
theorem poly_NewJoiner.ok {K : Nat} {p0 : Int} {r : Unit} (h0 : poly_NewJoiner K p0 = some r) : Fn Tryz.prog 89 [.nilp,.int .i64 p0] [] (poly_NewJoiner.res p0 r) (poly_NewJoiner.out p0 r):=by
 refine Fn_of Tryz.func89 rfl (Nat.le_of_ble_eq_true rfl) fun Γ=>?_
 unfold poly_NewJoiner at h0
 refine zr ?_
 refine zv 2 rfl ⟨tv,tv,tv⟩ ?_
 refine zn ?_
 refine zv 2 rfl ⟨tv,tv,tv⟩ ?_
 obtain ⟨r2,hr,h0⟩:=bnd h0
 refine TL_callB [] (poly_tables_2.ok0 hr) poly_tables_2.fnb rfl ⟨tv,⟨tv,⟨tv,tv⟩⟩⟩ rfl tv rfl ?_
 refine zv 6 rfl ⟨tv,tv,tv,tv,⟨tv,tv⟩,tv,tv⟩ ?_
 refine ze ?_
 refine TC_seq ?_
 refine zr ?_
 refine zv 2 rfl ⟨tv,⟨tv,tv,tv⟩,tv⟩ ?_
 refine ze ?_
 refine TC_cond rfl (fun hb=>?_) (fun hb=>?_)
 ·refine zr ?_
  refine zv 3 rfl ⟨tv,tv,tv,tv⟩ ?_
  refine ze ?_
  refine TC_ret ?_
  refine tsr ?_
  obtain rfl:=sinj h0
  exact TE_ret env rfl tv tv
 ·first | exact (ftf hb).elim | exact (tff hb).elim | exact absurd hb (by decide)
theorem poly_NewJoiner.ok0 {K : Nat} {p0 : Int}  (h0 : poly_NewJoiner K p0 = some ()) : Fn Tryz.prog 89 [.nilp,.int .i64 p0] [] (.tup [.nilp,.int .i64 3]) []:=poly_NewJoiner.ok h0
theorem poly_NewJoiner.fnb : fnb Tryz.prog 89 = true:=fnb_of Tryz.func89 rfl
def subband_NewDecoder.res (_p0 _p1 _p2 _p3 _p4 _p5 _p6 _p7 _p8 _p9 : Int) : Int → MV
 | q0=>.tup [.nilp,.int .i64 q0]
def subband_NewDecoder.out (_p0 _p1 _p2 _p3 _p4 _p5 _p6 _p7 _p8 _p9 : Int) : Int → List (Nat × Option MObj)
 | _=>[]
theorem subband_NewDecoder.ok {K : Nat} {p0 p1 p2 p3 p4 p5 p6 p7 p8 p9 r : Int} (h0 : subband_NewDecoder K p0 p1 p2 p3 p4 p5 p6 p7 p8 p9 = some r) : Fn Tryz.prog 34 [.nilp,.agg [.int .i64 p0,.int .i64 p1,.int .i64 p2,.int .i64 p3,.int .i64 p4,.int .i64 p5,.int .i64 p6,.int .i64 p7,.int .i64 p8,.int .i64 p9]] [] (subband_NewDecoder.res p0 p1 p2 p3 p4 p5 p6 p7 p8 p9 r) (subband_NewDecoder.out p0 p1 p2 p3 p4 p5 p6 p7 p8 p9 r):=by
 refine Fn_of Tryz.func34 rfl (Nat.le_of_ble_eq_true rfl) fun Γ=>?_
 refine zr ?_
 refine zv 3 rfl ⟨tv,tv,tv,tv⟩ ?_
 refine ze ?_
 refine TC_seq ?_
 refine zr ?_
 refine zv 1 rfl ⟨⟨tv,tv⟩,tv⟩ ?_
 obtain ⟨r2,hr,h0⟩:=bnd h0
 refine TL_callB [] (subband_may.ok0 hr) subband_may.fnb rfl ⟨tv,⟨tv,tv⟩⟩ rfl tv rfl ?_
 refine zv 1 rfl ⟨tv,tv⟩ ?_
 refine zn ?_
 refine zv 2 rfl ⟨tv,⟨tv,tv,tv⟩,tv⟩ ?_
 refine ze ?_
 refine TC_cond rfl (fun hb=>?_) (fun hb=>?_)
 ·replace h0:=bif_t h0 hb
  refine zr ?_
  refine zv 3 rfl ⟨tv,tv,tv,tv⟩ ?_
  refine ze ?_
  refine TC_ret ?_
  refine tsr ?_
  obtain rfl:=sinj h0
  exact TE_ret env rfl tv tv
 ·replace h0:=bif_f h0 hb
  refine TC_skip ?_
  refine zg ?_
  refine zv 4 rfl ⟨⟨tv,tv⟩,⟨tv,tv⟩,tv,tv,tv⟩ ?_
  refine ze ?_
  refine TC_seq ?_
  refine zr ?_
  refine zv 3 rfl ⟨tv,⟨tv,tv⟩,tv,tv⟩ ?_
  refine ze ?_
  refine TC_blk ?_
  refine nums h0 (fun hx h0=>?_) (fun h0=>?_)
  ·refine TC_num 19 1 hx rfl ?_
   refine TC_numC 1003 2 1 hx rfl rfl ?_
   refine TC_numC 1017 2 1 hx rfl rfl ?_
   refine TC_loopU ?_
   refine TE_lb ?_
   refine zr ?_
   refine zv 1 rfl ⟨⟨tv,tv,tv⟩,tv⟩ ?_
   refine ze ?_
   refine TC_seq ?_
   refine TC_cond rfl (fun hb=>?_) (fun hb=>?_)
   ·refine TC_skip ?_
    refine TE_go ?_
    refine TC_seq ?_
    refine TC_blk ?_
    refine zr ?_
    refine zv 3 rfl ⟨tv,tv,⟨tv,tv⟩,tv⟩ ?_
    obtain ⟨⟨⟩,hr,h0⟩:=bnd h0
    refine TL_callB [] (poly_NewJoiner.ok0 hr) poly_NewJoiner.fnb rfl ⟨tv,⟨tv,⟨tv,tv⟩⟩⟩ rfl tv rfl ?_
    refine zv 5 rfl ⟨tv,tv,tv,tv,tv,tv⟩ ?_
    refine ze ?_
    refine TC_seq ?_
    refine zr ?_
    refine zv 2 rfl ⟨tv,⟨tv,tv,tv⟩,tv⟩ ?_
    refine ze ?_
    refine TC_cond rfl (fun hb=>?_) (fun hb=>?_)
    ·refine zr ?_
     refine zv 3 rfl ⟨tv,tv,tv,tv⟩ ?_
     refine ze ?_
     refine TC_ret ?_
     refine tsr ?_
     refine tbr ?_
     refine tsr ?_
     refine tsr ?_
     refine tbr ?_
     refine tsr ?_
     obtain rfl:=sinj h0
     exact TE_ret env rfl tv tv
    ·first | exact (ftf hb).elim | exact (tff hb).elim | exact absurd hb (by decide)
   ·first | exact (ftf hb).elim | exact (tff hb).elim | exact absurd hb (by decide)
  ·refine nums h0 (fun hx h0=>?_) (fun h0=>?_)
   ·refine TC_num 19 2 hx rfl ?_
    refine TC_numC 1003 2 2 hx rfl rfl ?_
    refine TC_numC 1017 2 2 hx rfl rfl ?_
    refine TC_loopU ?_
    refine TE_lb ?_
    refine zr ?_
    refine zv 1 rfl ⟨⟨tv,tv,tv⟩,tv⟩ ?_
    refine ze ?_
    refine TC_seq ?_
    refine TC_cond rfl (fun hb=>?_) (fun hb=>?_)
    ·refine TC_skip ?_
     refine TE_go ?_
     refine TC_seq ?_
     refine TC_blk ?_
     refine zr ?_
     refine zv 3 rfl ⟨tv,tv,⟨tv,tv⟩,tv⟩ ?_
     obtain ⟨⟨⟩,hr,h0⟩:=bnd h0
     refine TL_callB [] (poly_NewJoiner.ok0 hr) poly_NewJoiner.fnb rfl ⟨tv,⟨tv,⟨tv,tv⟩⟩⟩ rfl tv rfl ?_
     refine zv 5 rfl ⟨tv,tv,tv,tv,tv,tv⟩ ?_
     refine ze ?_
     refine TC_seq ?_
     refine zr ?_
     refine zv 2 rfl ⟨tv,⟨tv,tv,tv⟩,tv⟩ ?_
     refine ze ?_
     refine TC_cond rfl (fun hb=>?_) (fun hb=>?_)
     ·refine zr ?_
      refine zv 3 rfl ⟨tv,tv,tv,tv⟩ ?_
      refine ze ?_
      refine TC_ret ?_
      refine tsr ?_
      refine tbr ?_
      refine tsr ?_
      refine tsr ?_
      refine tbr ?_
      refine tsr ?_
      obtain rfl:=sinj h0
      exact TE_ret env rfl tv tv
     ·first | exact (ftf hb).elim | exact (tff hb).elim | exact absurd hb (by decide)
    ·first | exact (ftf hb).elim | exact (tff hb).elim | exact absurd hb (by decide)
   ·exact (nsome h0).elim
theorem subband_NewDecoder.ok0 {K : Nat} {p0 p1 p2 p3 p4 p5 p6 p7 p8 p9 q0 : Int} (h0 : subband_NewDecoder K p0 p1 p2 p3 p4 p5 p6 p7 p8 p9 = some q0) : Fn Tryz.prog 34 [.nilp,.agg [.int .i64 p0,.int .i64 p1,.int .i64 p2,.int .i64 p3,.int .i64 p4,.int .i64 p5,.int .i64 p6,.int .i64 p7,.int .i64 p8,.int .i64 p9]] [] (.tup [.nilp,.int .i64 q0]) []:=subband_NewDecoder.ok h0
theorem subband_NewDecoder.fnb : fnb Tryz.prog 34 = true:=fnb_of Tryz.func34 rfl
def psalterylaw14_SubNil.res (_p0 _p1 _p2 _p3 _p4 _p5 _p6 _p7 _p8 _p9 : Int) (_p10 : List Int) : Bool → MV
 | q0=>.bool q0
def psalterylaw14_SubNil.out (_p0 _p1 _p2 _p3 _p4 _p5 _p6 _p7 _p8 _p9 : Int) (_p10 : List Int) : Bool → List (Nat × Option MObj)
 | _=>[]
theorem psalterylaw14_SubNil.ok {K : Nat} {p0 p1 p2 p3 p4 p5 p6 p7 p8 p9 : Int} {p10 : List Int} {r : Bool} (h0 : psalterylaw14_SubNil K p0 p1 p2 p3 p4 p5 p6 p7 p8 p9 p10 = some r) : Fn Tryz.prog 9 [.agg [.int .i64 p0,.int .i64 p1,.int .i64 p2,.int .i64 p3,.int .i64 p4,.int .i64 p5,.int .i64 p6,.int .i64 p7,.int .i64 p8,.int .i64 p9],.im (.slice (.int .i16)) p10] [] (psalterylaw14_SubNil.res p0 p1 p2 p3 p4 p5 p6 p7 p8 p9 p10 r) (psalterylaw14_SubNil.out p0 p1 p2 p3 p4 p5 p6 p7 p8 p9 p10 r):=by
 refine Fn_of Tryz.func9 rfl (Nat.le_of_ble_eq_true rfl) fun Γ=>?_
 unfold psalterylaw14_SubNil at h0
 refine zr ?_
 refine zv 2 rfl ⟨tv,tv,tv⟩ ?_
 refine ze ?_
 refine TC_seq ?_
 refine zr ?_
 obtain ⟨r6,hr,h0⟩:=bnd h0
 refine TL_callB [] (psalterylaw14_alive.ok0 hr) psalterylaw14_alive.fnb rfl ⟨tv,tv⟩ rfl tv rfl ?_
 refine zv 1 rfl ⟨tv,tv⟩ ?_
 refine ze ?_
 refine TC_cond rfl (fun hb=>?_) (fun hb=>?_)
 ·replace h0:=bif_t h0 hb
  refine zr ?_
  refine zv 1 rfl ⟨tv,tv⟩ ?_
  refine ze ?_
  refine TC_ret ?_
  refine tsr ?_
  obtain rfl:=sinj h0
  exact TE_ret env rfl tv tv
 ·replace h0:=bif_f h0 hb
  refine TC_skip ?_
  refine zg ?_
  refine zv 1 rfl ⟨tv,tv⟩ ?_
  refine zn ?_
  refine zv 1 rfl ⟨tv,tv⟩ ?_
  refine zn ?_
  refine zv 1 rfl ⟨tv,tv⟩ ?_
  obtain ⟨⟨⟩,hr,h0⟩:=bnd h0
  refine TL_callB [] (subband_Encoder_Reset.ok0 hr) subband_Encoder_Reset.fnb rfl ⟨tv,⟨tv,tv⟩⟩ rfl tv rfl ?_
  refine zn ?_
  refine zv 1 rfl ⟨tv,tv⟩ ?_
  obtain ⟨⟨⟩,hr,h0⟩:=bnd h0
  refine TL_callB [] (subband_Decoder_Reset.ok0 hr) subband_Decoder_Reset.fnb rfl ⟨tv,⟨tv,tv⟩⟩ rfl tv rfl ?_
  refine zn ?_
  refine zv 2 rfl ⟨tv,tv,tv⟩ ?_
  obtain ⟨r7,hr,h0⟩:=bnd h0
  refine TL_callB [] (subband_Encoder_Feed.ok0 hr) subband_Encoder_Feed.fnb rfl ⟨tv,⟨tv,⟨tv,tv⟩⟩⟩ rfl tv rfl ?_
  refine zv 5 rfl ⟨tv,tv,tv,tv,tv,tv⟩ ?_
  refine zn ?_
  refine zv 1 rfl ⟨tv,tv⟩ ?_
  obtain ⟨r8,hr,h0⟩:=bnd h0
  refine TL_callB [] (subband_Decoder_Play.ok0 hr) subband_Decoder_Play.fnb rfl ⟨tv,⟨tv,⟨tv,tv⟩⟩⟩ rfl tv rfl ?_
  refine zv 5 rfl ⟨tv,tv,tv,tv,tv,tv⟩ ?_
  refine zn ?_
  obtain ⟨⟨⟩,hr,h0⟩:=bnd h0
  refine TL_callB [] (psalterylaw14_plain.ok0 hr) psalterylaw14_plain.fnb rfl ⟨tv,tv⟩ rfl tv rfl ?_
  obtain ⟨r9,hr,h0⟩:=bnd h0
  refine TL_callB [] (subband_NewEncoder_2.ok0 hr) subband_NewEncoder_2.fnb rfl ⟨tv,⟨tv,⟨tv,tv⟩⟩⟩ rfl tv rfl ?_
  refine zv 5 rfl ⟨tv,tv,tv,tv,tv,tv⟩ ?_
  refine zn ?_
  obtain ⟨⟨⟩,hr,h0⟩:=bnd h0
  refine TL_callB [] (psalterylaw14_plain.ok0 hr) psalterylaw14_plain.fnb rfl ⟨tv,tv⟩ rfl tv rfl ?_
  obtain ⟨r10,hr,h0⟩:=bnd h0
  refine TL_callB [] (subband_NewDecoder.ok0 hr) subband_NewDecoder.fnb rfl ⟨tv,⟨tv,⟨tv,tv⟩⟩⟩ rfl tv rfl ?_
  refine zv 5 rfl ⟨tv,tv,tv,tv,tv,tv⟩ ?_
  refine zn ?_
  refine zv 3 rfl ⟨tv,⟨tv,tv,tv⟩,tv,tv⟩ ?_
  refine TL_gt rfl rfl rfl rfl ?_
  refine zv 1 rfl ⟨tv,tv⟩ ?_
  refine TL_gt rfl rfl rfl rfl ?_
  refine zv 3 rfl ⟨⟨tv,tv,tv⟩,⟨tv,tv,tv⟩,tv,tv⟩ ?_
  refine TL_gt rfl rfl rfl rfl ?_
  refine zv 1 rfl ⟨tv,tv⟩ ?_
  refine TL_gt rfl rfl rfl rfl ?_
  refine zv 7 rfl ⟨⟨tv,tv,tv⟩,⟨tv,tv,tv⟩,tv,fun eg=>tv,fun eg=>⟨fun e=>e,tv,tv⟩,⟨tv,fun e=>e,tv⟩,tv,tv⟩ ?_
  refine ze ?_
  refine TC_ret ?_
  obtain rfl:=sinj h0
  exact TE_ret env rfl tv tv
theorem psalterylaw14_SubNil.ok0 {K : Nat} {p0 p1 p2 p3 p4 p5 p6 p7 p8 p9 : Int} {p10 : List Int} {q0 : Bool} (h0 : psalterylaw14_SubNil K p0 p1 p2 p3 p4 p5 p6 p7 p8 p9 p10 = some q0) : Fn Tryz.prog 9 [.agg [.int .i64 p0,.int .i64 p1,.int .i64 p2,.int .i64 p3,.int .i64 p4,.int .i64 p5,.int .i64 p6,.int .i64 p7,.int .i64 p8,.int .i64 p9],.im (.slice (.int .i16)) p10] [] (.bool q0) []:=psalterylaw14_SubNil.ok h0
theorem psalterylaw14_SubNil.fnb : fnb Tryz.prog 9 = true:=fnb_of Tryz.func9 rfl
end Go.Fo
