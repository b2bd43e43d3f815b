/- Each call comes to the function that is written for it. -/
import Derived.Test.YtphienllhdoenaaGreatSn9T
import Derived.Test.YtphienllhdoenaaGreatSn9F
import Derived.Test.YtphienllhdoenaaGreatBx
import Derived.Test.YtphienllhdoenaaGreatSn9P0
import Derived.Test.YtphienllhdoenaaGreatSn9P1
namespace Go.Fo
open Go.Proofs
set_option maxRecDepth 20000
set_option maxHeartbeats 4000000
def subband_Params_codes.res (_p0 : List (List Int)) (_p1 : List Int) (_p2 : List (List Int)) (_p3 : List (List (List Int))) : (List ((Int × Int))) → MV
 | q0=>.im (.slice (.pair (.int .i64) (.int .i64))) q0
def subband_Params_codes.out (_p0 : List (List Int)) (p1 : List Int) (p2 : List (List Int)) (p3 : List (List (List Int))) : (List ((Int × Int))) → List (Nat × Option MObj)
 | _=>[(0,some (.cells [.im (.slice (.int .i64)) p1,.im (.slice (.slice (.int .i64))) p2,.im (.slice (.slice (.slice (.int .i64)))) p3]))]
theorem subband_Params_codes.ok {K : Nat} {p0 : List (List Int)} {p1 : List Int} {p2 : List (List Int)} {p3 : List (List (List Int))} {r : (List ((Int × Int)))} (h0 : subband_Params_codes K p0 p1 p2 p3 = some r) : Fn Tryz.prog 49 [.p 0 0,.im (.slice (.slice (.int .i64))) p0] [(0,some (.cells [.im (.slice (.int .i64)) p1,.im (.slice (.slice (.int .i64))) p2,.im (.slice (.slice (.slice (.int .i64)))) p3]))] (subband_Params_codes.res p0 p1 p2 p3 r) (subband_Params_codes.out p0 p1 p2 p3 r):=by
 refine Fn_of Tryz.func49 rfl (Nat.le_of_ble_eq_true rfl) fun Γ=>?_
 refine zr ?_
 refine zv 1 rfl ⟨tv,tv⟩ ?_
 refine zn ?_
 refine zv 1 rfl ⟨tv,tv⟩ ?_
 refine ze ?_
 refine TC_seq ?_
 refine zr ?_
 refine zv 6 rfl ⟨tv,tv,tv,⟨tv,tv⟩,⟨tv,tv⟩,tv,tv⟩ ?_
 refine ze ?_
 obtain ⟨z1,h1,h0⟩:=bnd h0
 refine TC_cut (α:=(List ((Int × Int)))) (fun s=>z1 = s) (fun s=>[(5,.sl 26801)]) (fun s=>[(0,some (.cells [.im (.slice (.int .i64)) p1,.im (.slice (.slice (.int .i64))) p2,.im (.slice (.slice (.slice (.int .i64)))) p3])),(26801,some (.rows (.pair (.int .i64) (.int .i64)) s))]) ?_ ?_
 ·refine TC_blk ?_
  refine TC_loop (α:=Int × (List ((Int × Int)))) (fun n s=>subband_Params_codes.l0 K p0 p3 (p3.length : Int) p1 p2 n s.1 s.2 = some z1) (fun s=>[(1,.im (.slice (.slice (.int .i64))) p0),(5,.sl 31001),(15,.im (.slice (.slice (.slice (.int .i64)))) p3),(16,.int .i64 (p3.length : Int)),(17,.int .i64 s.1)]) (fun s=>[(0,some (.cells [.im (.slice (.int .i64)) p1,.im (.slice (.slice (.int .i64))) p2,.im (.slice (.slice (.slice (.int .i64)))) p3])),(31001,some (.rows (.pair (.int .i64) (.int .i64)) s.2))]) K ?_ ?_
  ·refine TE_own 5 7005 (.pair (.int .i64) (.int .i64)) rfl (by decide) rfl rfl ?_
   exact SP_ren [(31001,7005)] (_,_) h1 ⟨rfl,rfl,rfl,rfl,rfl,tv⟩ ⟨rfl,rfl,tv⟩ rfl
  rintro n ⟨x261,x262⟩ h1
  rcases n with _ | n
  ·exact (nsome h1).elim
  replace h1 : subband_Params_codes.r0 K p0 p3 (p3.length : Int) p1 p2 (subband_Params_codes.l0 K p0 p3 (p3.length : Int) p1 p2 n) x261 x262 = some z1:=h1
  refine zr ?_
  refine zv 1 rfl ⟨⟨tv,tv,tv⟩,tv⟩ ?_
  refine ze ?_
  refine TC_seq ?_
  refine TC_cond rfl (fun hb=>?_) (fun hb=>?_)
  ·replace h1:=bif_t h1 hb
   refine TC_skip ?_
   refine TE_go ?_
   refine TC_seq ?_
   refine TC_blk ?_
   refine zr ?_
   obtain ⟨g,h1⟩:=gd_t h1
   refine zv 3 rfl ⟨⟨tv,tv,g.1,g.2⟩,⟨tv,tv⟩,tv,tv⟩ ?_
   refine zn ?_
   refine zv 3 rfl ⟨tv,⟨tv,tv⟩,tv,tv⟩ ?_
   refine ze ?_
   obtain ⟨z2,h2,h1⟩:=bnd h1
   refine TC_cut (α:=(List ((Int × Int)))) (fun s=>z2 = s) (fun s=>[(1,.im (.slice (.slice (.int .i64))) p0),(5,.sl 39101),(15,.im (.slice (.slice (.slice (.int .i64)))) p3),(16,.int .i64 (p3.length : Int)),(17,.int .i64 x261)]) (fun s=>[(0,some (.cells [.im (.slice (.int .i64)) p1,.im (.slice (.slice (.int .i64))) p2,.im (.slice (.slice (.slice (.int .i64)))) p3])),(39101,some (.rows (.pair (.int .i64) (.int .i64)) s))]) ?_ ?_
   ·refine TC_blk ?_
    refine TC_loop (α:=Int × (List ((Int × Int)))) (fun n s=>subband_Params_codes.l1 K p0 p3 (p3.length : Int) x261 (Kd.nth (.slice (.slice (.int .i64))) p3 (Int.toNat x261)) ((Kd.nth (.slice (.slice (.int .i64))) p3 (Int.toNat x261)).length : Int) p1 p2 n s.1 s.2 = some z2) (fun s=>[(1,.im (.slice (.slice (.int .i64))) p0),(5,.sl 40101),(15,.im (.slice (.slice (.slice (.int .i64)))) p3),(16,.int .i64 (p3.length : Int)),(17,.int .i64 x261),(21,.im (.slice (.slice (.int .i64))) (Kd.nth (.slice (.slice (.int .i64))) p3 (Int.toNat x261))),(22,.int .i64 ((Kd.nth (.slice (.slice (.int .i64))) p3 (Int.toNat x261)).length : Int)),(23,.int .i64 s.1)]) (fun s=>[(0,some (.cells [.im (.slice (.int .i64)) p1,.im (.slice (.slice (.int .i64))) p2,.im (.slice (.slice (.slice (.int .i64)))) p3])),(40101,some (.rows (.pair (.int .i64) (.int .i64)) s.2))]) K ?_ ?_
    ·exact SP_ren [(40101,31001)] (_,_) h2 ⟨rfl,rfl,rfl,rfl,rfl,rfl,rfl,rfl,tv⟩ ⟨rfl,rfl,tv⟩ rfl
    rintro n ⟨x379,x380⟩ h2
    rcases n with _ | n
    ·exact (nsome h2).elim
    replace h2 : subband_Params_codes.r1 K p0 p3 (p3.length : Int) x261 (Kd.nth (.slice (.slice (.int .i64))) p3 (Int.toNat x261)) ((Kd.nth (.slice (.slice (.int .i64))) p3 (Int.toNat x261)).length : Int) p1 p2 (subband_Params_codes.l1 K p0 p3 (p3.length : Int) x261 (Kd.nth (.slice (.slice (.int .i64))) p3 (Int.toNat x261)) ((Kd.nth (.slice (.slice (.int .i64))) p3 (Int.toNat x261)).length : Int) p1 p2 n) x379 x380 = some z2:=h2
    refine zr ?_
    refine zv 1 rfl ⟨⟨tv,tv,tv⟩,tv⟩ ?_
    refine ze ?_
    refine TC_seq ?_
    refine TC_cond rfl (fun hb=>?_) (fun hb=>?_)
    ·replace h2:=bif_t h2 hb
     refine TC_skip ?_
     refine TE_go ?_
     refine TC_seq ?_
     refine TC_blk ?_
     refine zr ?_
     obtain ⟨g,h2⟩:=gd_t h2
     refine zv 5 rfl ⟨tv,⟨tv,tv,g.1,g.2⟩,⟨tv,tv⟩,tv,tv,tv⟩ ?_
     refine zn ?_
     refine zv 3 rfl ⟨tv,⟨tv,tv⟩,tv,tv⟩ ?_
     refine ze ?_
     obtain ⟨z3,h3,h2⟩:=bnd h2
     refine TC_cut (α:=(List ((Int × Int)))) (fun s=>z3 = s) (fun s=>[(1,.im (.slice (.slice (.int .i64))) p0),(5,.sl 41801),(15,.im (.slice (.slice (.slice (.int .i64)))) p3),(16,.int .i64 (p3.length : Int)),(17,.int .i64 x261),(21,.im (.slice (.slice (.int .i64))) (Kd.nth (.slice (.slice (.int .i64))) p3 (Int.toNat x261))),(22,.int .i64 ((Kd.nth (.slice (.slice (.int .i64))) p3 (Int.toNat x261)).length : Int)),(23,.int .i64 x379)]) (fun s=>[(0,some (.cells [.im (.slice (.int .i64)) p1,.im (.slice (.slice (.int .i64))) p2,.im (.slice (.slice (.slice (.int .i64)))) p3])),(41801,some (.rows (.pair (.int .i64) (.int .i64)) s))]) ?_ ?_
     ·refine TC_blk ?_
      refine TC_loop (α:=Int × (List ((Int × Int)))) (fun n s=>subband_Params_codes.l2 K p0 x379 p3 (p3.length : Int) x261 (Kd.nth (.slice (.slice (.int .i64))) p3 (Int.toNat x261)) ((Kd.nth (.slice (.slice (.int .i64))) p3 (Int.toNat x261)).length : Int) (Kd.nth (.slice (.int .i64)) (Kd.nth (.slice (.slice (.int .i64))) p3 (Int.toNat x261)) (Int.toNat x379)) ((Kd.nth (.slice (.int .i64)) (Kd.nth (.slice (.slice (.int .i64))) p3 (Int.toNat x261)) (Int.toNat x379)).length : Int) p1 p2 n s.1 s.2 = some z3) (fun s=>[(1,.im (.slice (.slice (.int .i64))) p0),(5,.sl 42001),(8,.int .i64 x379),(15,.im (.slice (.slice (.slice (.int .i64)))) p3),(16,.int .i64 (p3.length : Int)),(17,.int .i64 x261),(21,.im (.slice (.slice (.int .i64))) (Kd.nth (.slice (.slice (.int .i64))) p3 (Int.toNat x261))),(22,.int .i64 ((Kd.nth (.slice (.slice (.int .i64))) p3 (Int.toNat x261)).length : Int)),(23,.int .i64 x379),(28,.im (.slice (.int .i64)) (Kd.nth (.slice (.int .i64)) (Kd.nth (.slice (.slice (.int .i64))) p3 (Int.toNat x261)) (Int.toNat x379))),(29,.int .i64 ((Kd.nth (.slice (.int .i64)) (Kd.nth (.slice (.slice (.int .i64))) p3 (Int.toNat x261)) (Int.toNat x379)).length : Int)),(30,.int .i64 s.1)]) (fun s=>[(0,some (.cells [.im (.slice (.int .i64)) p1,.im (.slice (.slice (.int .i64))) p2,.im (.slice (.slice (.slice (.int .i64)))) p3])),(42001,some (.rows (.pair (.int .i64) (.int .i64)) s.2))]) K ?_ ?_
      ·exact SP_ren [(42001,40101)] (_,_) h3 ⟨rfl,rfl,rfl,rfl,rfl,rfl,rfl,rfl,rfl,rfl,rfl,rfl,tv⟩ ⟨rfl,rfl,tv⟩ rfl
      rintro n ⟨x407,x408⟩ h3
      rcases n with _ | n
      ·exact (nsome h3).elim
      replace h3 : subband_Params_codes.r2 K p0 x379 p3 (p3.length : Int) x261 (Kd.nth (.slice (.slice (.int .i64))) p3 (Int.toNat x261)) ((Kd.nth (.slice (.slice (.int .i64))) p3 (Int.toNat x261)).length : Int) (Kd.nth (.slice (.int .i64)) (Kd.nth (.slice (.slice (.int .i64))) p3 (Int.toNat x261)) (Int.toNat x379)) ((Kd.nth (.slice (.int .i64)) (Kd.nth (.slice (.slice (.int .i64))) p3 (Int.toNat x261)) (Int.toNat x379)).length : Int) p1 p2 (subband_Params_codes.l2 K p0 x379 p3 (p3.length : Int) x261 (Kd.nth (.slice (.slice (.int .i64))) p3 (Int.toNat x261)) ((Kd.nth (.slice (.slice (.int .i64))) p3 (Int.toNat x261)).length : Int) (Kd.nth (.slice (.int .i64)) (Kd.nth (.slice (.slice (.int .i64))) p3 (Int.toNat x261)) (Int.toNat x379)) ((Kd.nth (.slice (.int .i64)) (Kd.nth (.slice (.slice (.int .i64))) p3 (Int.toNat x261)) (Int.toNat x379)).length : Int) p1 p2 n) x407 x408 = some z3:=h3
      refine zr ?_
      refine zv 1 rfl ⟨⟨tv,tv,tv⟩,tv⟩ ?_
      refine ze ?_
      refine TC_seq ?_
      refine TC_cond rfl (fun hb=>?_) (fun hb=>?_)
      ·replace h3:=bif_t h3 hb
       refine TC_skip ?_
       refine TE_go ?_
       refine TC_seq ?_
       refine TC_blk ?_
       refine zr ?_
       obtain ⟨g,h3⟩:=gd_t h3
       refine zv 5 rfl ⟨tv,⟨tv,tv,g.1,g.2⟩,⟨tv,tv⟩,tv,tv,tv⟩ ?_
       refine ze ?_
       refine TC_reg ?_
       obtain ⟨g,h3⟩:=gd_t h3
       refine zv 13 rfl ⟨tv,tv,tv,tv,⟨tv,tv,g.1,g.2.1⟩,⟨tv,tv⟩,tv,⟨tv,tv,g.2.2.1,g.2.2.2.1⟩,⟨tv,tv⟩,⟨tv,tv,tv⟩,⟨tv,tv⟩,⟨⟨tv,tv,tv⟩,g.2.2.2.2⟩,tv,tv⟩ ?_
       refine TL_end ?_
       refine tbn ?_
       refine zt ?_
       refine zv 2 rfl ⟨⟨tv,tv,tv⟩,tv,tv⟩ ?_
       refine zm ?_
       exact TE_nextr [(42001,1046)] n (zs n) (_,_) h3 ⟨rfl,rfl,rfl,rfl,rfl,rfl,rfl,rfl,rfl,rfl,rfl,rfl,tv⟩ ⟨rfl,rfl,tv⟩ rfl
      ·replace h3:=bif_f h3 hb
       refine TC_exit ?_
       refine tsx ?_
       refine tsx ?_
       refine tbe ?_
       obtain rfl:=sinj h3
       refine tsn ?_
       exact SP_ren [(41801,42001)] _ rfl ⟨rfl,rfl,rfl,rfl,rfl,rfl,rfl,rfl,tv⟩ ⟨rfl,rfl,tv⟩ rfl
     ·rintro x405 hz
      obtain rfl:=hz.symm
      refine tbn ?_
      refine zt ?_
      refine zv 2 rfl ⟨⟨tv,tv,tv⟩,tv,tv⟩ ?_
      refine zm ?_
      exact TE_nextr [(40101,41801)] n (zs n) (_,_) h2 ⟨rfl,rfl,rfl,rfl,rfl,rfl,rfl,rfl,tv⟩ ⟨rfl,rfl,tv⟩ rfl
    ·replace h2:=bif_f h2 hb
     refine TC_exit ?_
     refine tsx ?_
     refine tsx ?_
     refine tbe ?_
     obtain rfl:=sinj h2
     refine tsn ?_
     exact SP_ren [(39101,40101)] _ rfl ⟨rfl,rfl,rfl,rfl,rfl,tv⟩ ⟨rfl,rfl,tv⟩ rfl
   ·rintro x367 hz
    obtain rfl:=hz.symm
    refine tbn ?_
    refine zt ?_
    refine zv 2 rfl ⟨⟨tv,tv,tv⟩,tv,tv⟩ ?_
    refine zm ?_
    exact TE_nextr [(31001,39101)] n (zs n) (_,_) h1 ⟨rfl,rfl,rfl,rfl,rfl,tv⟩ ⟨rfl,rfl,tv⟩ rfl
  ·replace h1:=bif_f h1 hb
   refine TC_exit ?_
   refine tsx ?_
   refine tsx ?_
   refine tbe ?_
   obtain rfl:=sinj h1
   refine tsn ?_
   exact SP_ren [(26801,31001)] _ rfl ⟨rfl,tv⟩ ⟨rfl,rfl,tv⟩ rfl
 ·rintro x210 hz
  obtain rfl:=hz.symm
  refine zg ?_
  refine zv 2 rfl ⟨tv,tv,tv⟩ ?_
  refine ze ?_
  refine TC_ret ?_
  refine TE_frz 26801 rfl ?_
  obtain rfl:=sinj h0
  exact TE_ret env rfl tv ⟨.inr rfl,tv⟩
theorem subband_Params_codes.ok0 {K : Nat} {p0 : List (List Int)} {p1 : List Int} {p2 : List (List Int)} {p3 : List (List (List Int))} {q0 : List ((Int × Int))} (h0 : subband_Params_codes K p0 p1 p2 p3 = some q0) : Fn Tryz.prog 49 [.p 0 0,.im (.slice (.slice (.int .i64))) p0] [(0,some (.cells [.im (.slice (.int .i64)) p1,.im (.slice (.slice (.int .i64))) p2,.im (.slice (.slice (.slice (.int .i64)))) p3]))] (.im (.slice (.pair (.int .i64) (.int .i64))) q0) [(0,some (.cells [.im (.slice (.int .i64)) p1,.im (.slice (.slice (.int .i64))) p2,.im (.slice (.slice (.slice (.int .i64)))) p3]))]:=subband_Params_codes.ok h0
theorem subband_Params_codes.fnb : fnb Tryz.prog 49 = true:=fnb_of Tryz.func49 rfl
def subband_Pack.res (_p0 _p1 _p2 _p3 _p4 _p5 _p6 _p7 _p8 _p9 : Int) (_p10 : List Int) (_p11 : List (List Int)) (_p12 : List (List (List Int))) : (List Int) × Int → MV
 | (q0,q1)=>.tup [.im (.slice (.int .u8)) q0,.int .i64 q1]
def subband_Pack.out (_p0 _p1 _p2 _p3 _p4 _p5 _p6 _p7 _p8 _p9 : Int) (_p10 : List Int) (_p11 : List (List Int)) (_p12 : List (List (List Int))) : (List Int) × Int → List (Nat × Option MObj)
 | (_,_)=>[]
theorem subband_Pack.ok {K : Nat} {p0 p1 p2 p3 p4 p5 p6 p7 p8 p9 : Int} {p10 : List Int} {p11 : List (List Int)} {p12 : List (List (List Int))} {r : (List Int) × Int} (h0 : subband_Pack K p0 p1 p2 p3 p4 p5 p6 p7 p8 p9 p10 p11 p12 = some r) : Fn Tryz.prog 13 [.agg [.int .i64 p0,.int .i64 p1,.int .i64 p2,.int .i64 p3,.int .i64 p4,.int .i64 p5,.int .i64 p6,.int .i64 p7,.int .i64 p8,.int .i64 p9],.agg [.im (.slice (.int .i64)) p10,.im (.slice (.slice (.int .i64))) p11,.im (.slice (.slice (.slice (.int .i64)))) p12]] [] (subband_Pack.res p0 p1 p2 p3 p4 p5 p6 p7 p8 p9 p10 p11 p12 r) (subband_Pack.out p0 p1 p2 p3 p4 p5 p6 p7 p8 p9 p10 p11 p12 r):=by
 refine Fn_of Tryz.func13 rfl (Nat.le_of_ble_eq_true rfl) fun Γ=>?_
 unfold subband_Pack at h0
 refine zr ?_
 refine zv 4 rfl ⟨tv,tv,tv,tv,tv⟩ ?_
 refine ze ?_
 refine TC_seq ?_
 refine zr ?_
 refine zv 1 rfl ⟨⟨tv,tv⟩,tv⟩ ?_
 obtain ⟨r37,hr,h0⟩:=bnd h0
 refine TL_callB [] (subband_may.ok0 hr) subband_may.fnb rfl ⟨tv,⟨tv,tv⟩⟩ rfl tv rfl ?_
 refine zv 1 rfl ⟨tv,tv⟩ ?_
 refine zn ?_
 refine zv 2 rfl ⟨tv,⟨tv,tv,tv⟩,tv⟩ ?_
 refine ze ?_
 refine TC_cond rfl (fun hb=>?_) (fun hb=>?_)
 ·replace h0:=bif_t h0 hb
  refine zr ?_
  refine zv 3 rfl ⟨tv,tv,tv,tv⟩ ?_
  refine ze ?_
  refine TC_ret ?_
  refine tsr ?_
  refine TE_imn 4 (.int .u8) rfl ?_
  obtain rfl:=sinj h0
  exact TE_ret env rfl tv tv
 ·replace h0:=bif_f h0 hb
  refine TC_skip ?_
  refine zg ?_
  refine zv 1 rfl ⟨⟨tv,tv⟩,tv⟩ ?_
  obtain ⟨⟨r38,r39⟩,hr,h0⟩:=bnd h0
  refine TL_callB [(0,1003)] (subband_Params_share.ok0 hr) subband_Params_share.fnb rfl ⟨tv,⟨tv,⟨tv,tv⟩⟩⟩ rfl ⟨.inr rfl,tv⟩ rfl ?_
  refine zv 5 rfl ⟨tv,tv,tv,tv,tv,tv⟩ ?_
  refine ze ?_
  refine TC_seq ?_
  refine zr ?_
  refine zv 2 rfl ⟨tv,tv,tv⟩ ?_
  refine ze ?_
  refine TC_cond rfl (fun hb=>?_) (fun hb=>?_)
  ·replace h0:=bif_t h0 hb
   refine zr ?_
   refine zv 2 rfl ⟨tv,tv,tv⟩ ?_
   refine ze ?_
   refine TC_ret ?_
   refine tsr ?_
   refine TE_imn 4 (.int .u8) rfl ?_
   obtain rfl:=sinj h0
   exact TE_ret env rfl tv tv
  ·replace h0:=bif_f h0 hb
   refine TC_skip ?_
   refine zg ?_
   refine zv 1 rfl ⟨⟨tv,tv⟩,tv⟩ ?_
   obtain ⟨r40,hr,h0⟩:=bnd h0
   refine TL_callB [] (format_Payload.ok0 hr) format_Payload.fnb rfl ⟨tv,⟨tv,tv⟩⟩ rfl tv rfl ?_
   obtain ⟨z,hr,h0⟩:=bnd h0
   rcases z with r41 | r42
   ·refine TL_callB [] (bits_New.ok0 hr) bits_New.fnb rfl ⟨tv,⟨tv,tv⟩⟩ rfl tv rfl ?_
    refine zv 5 rfl ⟨tv,tv,tv,tv,tv,tv⟩ ?_
    refine zn ?_
    refine zv 3 rfl ⟨tv,⟨tv,tv,tv⟩,⟨tv,tv⟩,tv⟩ ?_
    refine TL_frz 1031 rfl ?_
    obtain ⟨r43,hr,h0⟩:=bnd h0
    refine TL_callB [] (subband_put.ok0 hr) subband_put.fnb rfl ⟨tv,⟨tv,⟨tv,tv⟩⟩⟩ rfl tv rfl ?_
    refine zn ?_
    refine zv 2 rfl ⟨tv,⟨tv,tv⟩,tv⟩ ?_
    obtain ⟨r44,hr,h0⟩:=bnd h0
    refine TL_callB [] (subband_head.ok0 hr) subband_head.fnb rfl ⟨tv,⟨tv,tv⟩⟩ rfl tv rfl ?_
    obtain ⟨r45,hr,h0⟩:=bnd h0
    refine TL_callB [] (subband_put.ok0 hr) subband_put.fnb rfl ⟨tv,⟨tv,⟨tv,tv⟩⟩⟩ rfl tv rfl ?_
    refine zn ?_
    refine zv 2 rfl ⟨tv,⟨tv,tv⟩,tv⟩ ?_
    obtain ⟨r46,hr,h0⟩:=bnd h0
    refine TL_callB [(0,1003)] (subband_Params_sum.ok0 hr) subband_Params_sum.fnb rfl ⟨tv,⟨tv,⟨tv,tv⟩⟩⟩ rfl ⟨.inr rfl,tv⟩ rfl ?_
    refine zv 2 rfl ⟨⟨tv,tv,tv⟩,⟨tv,tv⟩,tv⟩ ?_
    refine TL_frz 1041 rfl ?_
    obtain ⟨r47,hr,h0⟩:=bnd h0
    refine TL_callB [] (subband_put.ok0 hr) subband_put.fnb rfl ⟨tv,⟨tv,⟨tv,tv⟩⟩⟩ rfl tv rfl ?_
    refine zn ?_
    refine zv 2 rfl ⟨tv,⟨tv,tv⟩,tv⟩ ?_
    obtain ⟨r48,hr,h0⟩:=bnd h0
    refine TL_callB [(0,1003)] (subband_Params_side.ok0 hr) subband_Params_side.fnb rfl ⟨tv,⟨tv,⟨tv,tv⟩⟩⟩ rfl ⟨.inr rfl,tv⟩ rfl ?_
    obtain ⟨r49,hr,h0⟩:=bnd h0
    refine TL_callB [] (subband_put.ok0 hr) subband_put.fnb rfl ⟨tv,⟨tv,⟨tv,tv⟩⟩⟩ rfl tv rfl ?_
    refine zn ?_
    refine zv 2 rfl ⟨tv,tv,tv⟩ ?_
    obtain ⟨r50,hr,h0⟩:=bnd h0
    refine TL_callB [(0,1003)] (subband_Params_codes.ok0 hr) subband_Params_codes.fnb rfl ⟨tv,⟨tv,⟨tv,tv⟩⟩⟩ rfl ⟨.inr rfl,tv⟩ rfl ?_
    obtain ⟨r51,hr,h0⟩:=bnd h0
    refine TL_callB [] (subband_put.ok0 hr) subband_put.fnb rfl ⟨tv,⟨tv,⟨tv,tv⟩⟩⟩ rfl tv rfl ?_
    refine zn ?_
    refine zv 1 rfl ⟨tv,tv⟩ ?_
    obtain ⟨r52,hr,h0⟩:=bnd h0
    refine TL_callB [] (bits_Pad_Bytes.ok0 hr) bits_Pad_Bytes.fnb rfl ⟨tv,⟨tv,tv⟩⟩ rfl tv rfl ?_
    refine zv 2 rfl ⟨tv,tv,tv⟩ ?_
    refine ze ?_
    refine TC_ret ?_
    obtain rfl:=sinj h0
    exact TE_ret env rfl tv tv
   ·refine TL_callB [(1000,500260),(1001,500261)] (bits_New.ok1 hr) bits_New.fnb rfl ⟨tv,⟨tv,tv⟩⟩ rfl tv rfl ?_
    refine zv 5 rfl ⟨tv,tv,tv,tv,tv,tv⟩ ?_
    refine zn ?_
    refine zv 3 rfl ⟨tv,⟨tv,tv,tv⟩,⟨tv,tv⟩,tv⟩ ?_
    refine TL_frz 1031 rfl ?_
    obtain ⟨⟨r53,r54,r55⟩,hr,h0⟩:=bnd h0
    refine TL_callB [(0,500260),(1,500261)] (subband_put_2.ok0 hr) subband_put_2.fnb rfl ⟨tv,⟨tv,⟨tv,tv⟩⟩⟩ rfl ⟨.inr rfl,.inr rfl,tv⟩ rfl ?_
    refine zn ?_
    refine zv 2 rfl ⟨tv,⟨tv,tv⟩,tv⟩ ?_
    obtain ⟨r56,hr,h0⟩:=bnd h0
    refine TL_callB [] (subband_head.ok0 hr) subband_head.fnb rfl ⟨tv,⟨tv,tv⟩⟩ rfl tv rfl ?_
    obtain ⟨⟨r57,r58,r59⟩,hr,h0⟩:=bnd h0
    refine TL_callB [(0,500260),(1,500261)] (subband_put_2.ok0 hr) subband_put_2.fnb rfl ⟨tv,⟨tv,⟨tv,tv⟩⟩⟩ rfl ⟨.inr rfl,.inr rfl,tv⟩ rfl ?_
    refine zn ?_
    refine zv 2 rfl ⟨tv,⟨tv,tv⟩,tv⟩ ?_
    obtain ⟨r60,hr,h0⟩:=bnd h0
    refine TL_callB [(0,1003)] (subband_Params_sum.ok0 hr) subband_Params_sum.fnb rfl ⟨tv,⟨tv,⟨tv,tv⟩⟩⟩ rfl ⟨.inr rfl,tv⟩ rfl ?_
    refine zv 2 rfl ⟨⟨tv,tv,tv⟩,⟨tv,tv⟩,tv⟩ ?_
    refine TL_frz 1041 rfl ?_
    obtain ⟨⟨r61,r62,r63⟩,hr,h0⟩:=bnd h0
    refine TL_callB [(0,500260),(1,500261)] (subband_put_2.ok0 hr) subband_put_2.fnb rfl ⟨tv,⟨tv,⟨tv,tv⟩⟩⟩ rfl ⟨.inr rfl,.inr rfl,tv⟩ rfl ?_
    refine zn ?_
    refine zv 2 rfl ⟨tv,⟨tv,tv⟩,tv⟩ ?_
    obtain ⟨r64,hr,h0⟩:=bnd h0
    refine TL_callB [(0,1003)] (subband_Params_side.ok0 hr) subband_Params_side.fnb rfl ⟨tv,⟨tv,⟨tv,tv⟩⟩⟩ rfl ⟨.inr rfl,tv⟩ rfl ?_
    obtain ⟨⟨r65,r66,r67⟩,hr,h0⟩:=bnd h0
    refine TL_callB [(0,500260),(1,500261)] (subband_put_2.ok0 hr) subband_put_2.fnb rfl ⟨tv,⟨tv,⟨tv,tv⟩⟩⟩ rfl ⟨.inr rfl,.inr rfl,tv⟩ rfl ?_
    refine zn ?_
    refine zv 2 rfl ⟨tv,tv,tv⟩ ?_
    obtain ⟨r68,hr,h0⟩:=bnd h0
    refine TL_callB [(0,1003)] (subband_Params_codes.ok0 hr) subband_Params_codes.fnb rfl ⟨tv,⟨tv,⟨tv,tv⟩⟩⟩ rfl ⟨.inr rfl,tv⟩ rfl ?_
    obtain ⟨⟨r69,r70,r71⟩,hr,h0⟩:=bnd h0
    refine TL_callB [(0,500260),(1,500261)] (subband_put_2.ok0 hr) subband_put_2.fnb rfl ⟨tv,⟨tv,⟨tv,tv⟩⟩⟩ rfl ⟨.inr rfl,.inr rfl,tv⟩ rfl ?_
    refine zn ?_
    refine zv 1 rfl ⟨tv,tv⟩ ?_
    obtain ⟨r72,hr,h0⟩:=bnd h0
    refine TL_callB [(0,500260),(1,500261)] (bits_Pad_Bytes_2.ok0 hr) bits_Pad_Bytes_2.fnb rfl ⟨tv,⟨tv,tv⟩⟩ rfl ⟨.inr rfl,.inr rfl,tv⟩ rfl ?_
    refine zv 2 rfl ⟨tv,tv,tv⟩ ?_
    refine ze ?_
    refine TC_ret ?_
    obtain rfl:=sinj h0
    exact TE_ret env rfl tv tv
theorem subband_Pack.ok0 {K : Nat} {p0 p1 p2 p3 p4 p5 p6 p7 p8 p9 : Int} {p10 : List Int} {p11 : List (List Int)} {p12 : List (List (List Int))} {q0 : List Int} {q1 : Int} (h0 : subband_Pack K p0 p1 p2 p3 p4 p5 p6 p7 p8 p9 p10 p11 p12 = some (q0,q1)) : Fn Tryz.prog 13 [.agg [.int .i64 p0,.int .i64 p1,.int .i64 p2,.int .i64 p3,.int .i64 p4,.int .i64 p5,.int .i64 p6,.int .i64 p7,.int .i64 p8,.int .i64 p9],.agg [.im (.slice (.int .i64)) p10,.im (.slice (.slice (.int .i64))) p11,.im (.slice (.slice (.slice (.int .i64)))) p12]] [] (.tup [.im (.slice (.int .u8)) q0,.int .i64 q1]) []:=subband_Pack.ok h0
theorem subband_Pack.fnb : fnb Tryz.prog 13 = true:=fnb_of Tryz.func13 rfl
def slices_Equal_byte_byte.res (_p0 _p1 : List Int) : Bool → MV
 | q0=>.bool q0
def slices_Equal_byte_byte.out (_p0 _p1 : List Int) : Bool → List (Nat × Option MObj)
 | _=>[]
theorem slices_Equal_byte_byte.ok {K : Nat} {p0 p1 : List Int} {r : Bool} (h0 : slices_Equal_byte_byte K p0 p1 = some r) : Fn Tryz.prog 55 [.im (.slice (.int .u8)) p0,.im (.slice (.int .u8)) p1] [] (slices_Equal_byte_byte.res p0 p1 r) (slices_Equal_byte_byte.out p0 p1 r):=by
 refine Fn_of Tryz.func55 rfl (Nat.le_of_ble_eq_true rfl) fun Γ=>?_
 refine zr ?_
 refine zv 1 rfl ⟨tv,tv⟩ ?_
 refine ze ?_
 refine TC_seq ?_
 refine zr ?_
 refine zv 5 rfl ⟨tv,⟨tv,tv⟩,tv,⟨tv,tv⟩,⟨tv,tv,tv⟩,tv⟩ ?_
 refine ze ?_
 refine TC_cond rfl (fun hb=>?_) (fun hb=>?_)
 ·replace h0:=bif_t h0 hb
  refine zr ?_
  refine zv 1 rfl ⟨tv,tv⟩ ?_
  refine ze ?_
  refine TC_ret ?_
  refine tsr ?_
  obtain rfl:=sinj h0
  exact TE_ret env rfl tv tv
 ·replace h0:=bif_f h0 hb
  refine TC_skip ?_
  refine TE_go ?_
  refine TC_seq ?_
  refine zr ?_
  refine zv 3 rfl ⟨tv,⟨tv,tv⟩,tv,tv⟩ ?_
  refine ze ?_
  obtain ⟨z1,h1,h0⟩:=bnd h0
  refine TC_cut (α:=Unit) (fun _=>z1 = .inl ()) (fun _=>[]) (fun _=>[]) ?_ ?_
  ·refine TC_blk ?_
   refine TC_loop (α:=Int) (fun n s=>slices_Equal_byte_byte.l0 K p0 p1 (p0.length : Int) n s = some z1) (fun s=>[(0,.im (.slice (.int .u8)) p0),(1,.im (.slice (.int .u8)) p1),(12,.int .i64 (p0.length : Int)),(13,.int .i64 s)]) (fun s=>[]) K ?_ ?_
   ·exact SP_ren [] _ h1 ⟨rfl,rfl,rfl,rfl,tv⟩ tv rfl
   rintro n x6 h1
   rcases n with _ | n
   ·exact (nsome h1).elim
   replace h1 : slices_Equal_byte_byte.r0 K p0 p1 (p0.length : Int) (slices_Equal_byte_byte.l0 K p0 p1 (p0.length : Int) n) x6 = some z1:=h1
   refine zr ?_
   refine zv 1 rfl ⟨⟨tv,tv,tv⟩,tv⟩ ?_
   refine ze ?_
   refine TC_seq ?_
   refine TC_cond rfl (fun hb=>?_) (fun hb=>?_)
   ·replace h1:=bif_t h1 hb
    refine TC_skip ?_
    refine TE_go ?_
    refine TC_seq ?_
    refine TC_blk ?_
    refine zr ?_
    refine zv 2 rfl ⟨tv,tv,tv⟩ ?_
    refine ze ?_
    refine TC_seq ?_
    refine TC_renw (A':=[(0,.im (.slice (.int .u8)) _),(1,.im (.slice (.int .u8)) _),(5,.int .i64 _),(12,.int .i64 _),(13,.int .i64 _)]) (L':=[]) [] ⟨rfl,rfl,rfl,rfl,rfl,tv⟩ tv rfl ?_
    refine zd [[],[],[1,0],[2,1,0],[],[],[5,4],[6,5,4],[7,6,5,4,3,2,1,0]] [[],[],[],[],[],[],[],[],[]] [[],[],[],[],[],[],[],[],[]] [[],[],[],[],[],[],[],[],[]] (by kernel_rfl) (by kernel_rfl) ?_
    refine zj 1 rfl rfl rfl tv ?_
    refine zj 2 rfl rfl rfl tv ?_
    obtain ⟨g,h1⟩:=gd_t h1
    refine zj 3 rfl rfl rfl ⟨tv,tv,g.1,g.2⟩ ?_
    refine zj 4 rfl rfl rfl ⟨tv,tv⟩ ?_
    refine zj 5 rfl rfl rfl tv ?_
    refine zj 6 rfl rfl rfl tv ?_
    obtain ⟨g,h1⟩:=gd_t h1
    refine zj 7 rfl rfl rfl ⟨tv,tv,g.1,g.2⟩ ?_
    refine zj 8 rfl rfl rfl ⟨tv,tv⟩ ?_
    refine zj 9 rfl rfl rfl ⟨tv,tv,tv⟩ ?_
    refine AJR_end rfl rfl rfl ?_
    refine TE_go ?_
    refine TC_cond rfl (fun hb=>?_) (fun hb=>?_)
    ·replace h1:=bif_t h1 hb
     refine zr ?_
     refine zv 1 rfl ⟨tv,tv⟩ ?_
     refine ze ?_
     refine TC_ret ?_
     refine tbr ?_
     refine tsr ?_
     refine tsr ?_
     refine tbr ?_
     refine tsr ?_
     refine tsr ?_
     obtain rfl:=sinj h1
     obtain rfl:=sinj h0
     exact TE_ret env rfl tv tv
    ·replace h1:=bif_f h1 hb
     refine TC_skip ?_
     refine tbn ?_
     refine zt ?_
     refine zv 2 rfl ⟨⟨tv,tv,tv⟩,tv,tv⟩ ?_
     refine zm ?_
     exact TE_nextr [] n (zs n) _ h1 ⟨rfl,rfl,rfl,rfl,tv⟩ tv rfl
   ·replace h1:=bif_f h1 hb
    refine TC_exit ?_
    refine tsx ?_
    refine tsx ?_
    refine tbe ?_
    obtain rfl:=sinj h1
    refine tsn ?_
    exact SP_ren [] () rfl tv tv rfl
  ·rintro ⟨⟩ rfl
   refine zg ?_
   refine zv 1 rfl ⟨tv,tv⟩ ?_
   refine ze ?_
   refine TC_ret ?_
   obtain rfl:=sinj h0
   exact TE_ret env rfl tv tv
theorem slices_Equal_byte_byte.ok0 {K : Nat} {p0 p1 : List Int} {q0 : Bool} (h0 : slices_Equal_byte_byte K p0 p1 = some q0) : Fn Tryz.prog 55 [.im (.slice (.int .u8)) p0,.im (.slice (.int .u8)) p1] [] (.bool q0) []:=slices_Equal_byte_byte.ok h0
theorem slices_Equal_byte_byte.fnb : fnb Tryz.prog 55 = true:=fnb_of Tryz.func55 rfl
def bits_ends_left_2.res (_p0 _p1 _p2 : Int) (_p3 : List Int) : Int → MV
 | q0=>.int .i64 q0
def bits_ends_left_2.out (_p0 p1 p2 : Int) (p3 : List Int) : Int → List (Nat × Option MObj)
 | _=>[(0,some (.cells [.int .i64 p1,.int .i64 p2,.im (.slice (.int .u8)) p3]))]
theorem bits_ends_left_2.ok {K : Nat} {p0 p1 p2 : Int} {p3 : List Int} {r : Int} (h0 : bits_ends_left_2 K p0 p1 p2 p3 = some r) : Fn Tryz.prog 161 [.p 0 0,.int .i64 p0] [(0,some (.cells [.int .i64 p1,.int .i64 p2,.im (.slice (.int .u8)) p3]))] (bits_ends_left_2.res p0 p1 p2 p3 r) (bits_ends_left_2.out p0 p1 p2 p3 r):=by
 refine Fn_of Tryz.func161 rfl (Nat.le_of_ble_eq_true rfl) fun Γ=>?_
 refine zr ?_
 refine zv 1 rfl ⟨tv,tv⟩ ?_
 refine ze ?_
 refine TC_seq ?_
 refine TC_renw (A':=[(0,.p 0 0),(1,.int .i64 _),(4,.int .i64 0)]) (L':=[(0,some (.cells [.int .i64 _,.int .i64 _,.im (.slice (.int .u8)) _]))]) [] ⟨rfl,rfl,rfl,tv⟩ ⟨rfl,tv⟩ rfl ?_
 refine zd [[],[0],[],[2],[3,2],[4,3,2],[5,4,3,2,1,0],[],[7],[8,7],[9,8,7],[10,9,8,7,6,5,4,3,2,1,0],[11,10,9,8,7,6,5,4,3,2,1,0]] [[],[],[],[],[],[],[],[],[],[],[],[],[]] [[],[],[],[],[],[],[],[],[],[],[],[],[]] [[],[],[],[],[],[],[],[],[],[],[],[],[]] (by kernel_rfl) (by kernel_rfl) ?_
 refine zj 1 rfl rfl rfl tv ?_
 refine zj 2 rfl rfl rfl ⟨tv,tv,tv⟩ ?_
 refine zj 3 rfl rfl rfl tv ?_
 refine zj 4 rfl rfl rfl tv ?_
 refine zj 5 rfl rfl rfl tv ?_
 refine zj 6 rfl rfl rfl ⟨tv,tv⟩ ?_
 refine zj 7 rfl rfl rfl ⟨tv,tv,tv⟩ ?_
 refine zj 8 rfl rfl rfl tv ?_
 refine zj 9 rfl rfl rfl tv ?_
 refine zj 10 rfl rfl rfl tv ?_
 refine zj 11 rfl rfl rfl ⟨tv,tv⟩ ?_
 refine zj 12 rfl rfl rfl ⟨tv,tv,tv⟩ ?_
 refine zj 13 rfl rfl rfl tv ?_
 refine AJR_end rfl rfl rfl ?_
 refine zu ?_
 obtain rfl:=sinj h0
 exact TE_ret env rfl tv ⟨.inr rfl,tv⟩
theorem bits_ends_left_2.ok0 {K : Nat} {p0 p1 p2 : Int} {p3 : List Int} {q0 : Int} (h0 : bits_ends_left_2 K p0 p1 p2 p3 = some q0) : Fn Tryz.prog 161 [.p 0 0,.int .i64 p0] [(0,some (.cells [.int .i64 p1,.int .i64 p2,.im (.slice (.int .u8)) p3]))] (.int .i64 q0) [(0,some (.cells [.int .i64 p1,.int .i64 p2,.im (.slice (.int .u8)) p3]))]:=bits_ends_left_2.ok h0
theorem bits_ends_left_2.fnb : fnb Tryz.prog 161 = true:=fnb_of Tryz.func161 rfl
def bits_ends_may_2.res (_p0 _p1 _p2 _p3 : Int) (_p4 : List Int) : Int → MV
 | q0=>.int .i64 q0
def bits_ends_may_2.out (_p0 _p1 p2 p3 : Int) (p4 : List Int) : Int → List (Nat × Option MObj)
 | _=>[(0,some (.cells [.int .i64 p2,.int .i64 p3,.im (.slice (.int .u8)) p4]))]
theorem bits_ends_may_2.ok {K : Nat} {p0 p1 p2 p3 : Int} {p4 : List Int} {r : Int} (h0 : bits_ends_may_2 K p0 p1 p2 p3 p4 = some r) : Fn Tryz.prog 109 [.p 0 0,.int .i64 p0,.int .i64 p1] [(0,some (.cells [.int .i64 p2,.int .i64 p3,.im (.slice (.int .u8)) p4]))] (bits_ends_may_2.res p0 p1 p2 p3 p4 r) (bits_ends_may_2.out p0 p1 p2 p3 p4 r):=by
 refine Fn_of Tryz.func109 rfl (Nat.le_of_ble_eq_true rfl) fun Γ=>?_
 unfold bits_ends_may_2 at h0
 refine zr ?_
 refine zv 1 rfl ⟨tv,tv⟩ ?_
 refine ze ?_
 refine TC_seq ?_
 refine TC_blk ?_
 refine zr ?_
 refine zv 7 rfl ⟨tv,⟨tv,tv,tv⟩,tv,fun eg=>tv,fun eg=>⟨fun e=>e,tv,tv⟩,⟨tv,tv,fun e=>e⟩,tv,tv⟩ ?_
 refine ze ?_
 refine TC_cond rfl (fun hb=>?_) (fun hb=>?_)
 ·replace h0:=bif_t h0 hb
  refine zr ?_
  refine zv 1 rfl ⟨tv,tv⟩ ?_
  refine ze ?_
  refine TC_ret ?_
  refine tbr ?_
  refine tsr ?_
  obtain rfl:=sinj h0
  exact TE_ret env rfl tv ⟨.inr rfl,tv⟩
 ·replace h0:=bif_f h0 hb
  refine zr ?_
  refine zv 3 rfl ⟨tv,tv,tv,tv⟩ ?_
  obtain ⟨r9,hr,h0⟩:=bnd h0
  refine TL_callB [(0,0)] (bits_ends_left_2.ok0 hr) bits_ends_left_2.fnb rfl ⟨tv,⟨tv,⟨tv,tv⟩⟩⟩ rfl ⟨.inr rfl,tv⟩ rfl ?_
  refine zv 2 rfl ⟨⟨tv,tv,tv⟩,tv,tv⟩ ?_
  refine ze ?_
  refine TC_cond rfl (fun hb=>?_) (fun hb=>?_)
  ·replace h0:=bif_t h0 hb
   refine zr ?_
   refine zv 1 rfl ⟨tv,tv⟩ ?_
   refine ze ?_
   refine TC_ret ?_
   refine tbr ?_
   refine tsr ?_
   obtain rfl:=sinj h0
   exact TE_ret env rfl tv ⟨.inr rfl,tv⟩
  ·replace h0:=bif_f h0 hb
   refine TC_skip ?_
   refine tbn ?_
   refine zg ?_
   refine zv 1 rfl ⟨tv,tv⟩ ?_
   refine ze ?_
   refine TC_ret ?_
   obtain rfl:=sinj h0
   exact TE_ret env rfl tv ⟨.inr rfl,tv⟩
theorem bits_ends_may_2.ok0 {K : Nat} {p0 p1 p2 p3 : Int} {p4 : List Int} {q0 : Int} (h0 : bits_ends_may_2 K p0 p1 p2 p3 p4 = some q0) : Fn Tryz.prog 109 [.p 0 0,.int .i64 p0,.int .i64 p1] [(0,some (.cells [.int .i64 p2,.int .i64 p3,.im (.slice (.int .u8)) p4]))] (.int .i64 q0) [(0,some (.cells [.int .i64 p2,.int .i64 p3,.im (.slice (.int .u8)) p4]))]:=bits_ends_may_2.ok h0
theorem bits_ends_may_2.fnb : fnb Tryz.prog 109 = true:=fnb_of Tryz.func109 rfl
def bits_ends_ahead_2.res (_p0 _p1 : Int) (_p2 : List Int) : Int × Int × Int → MV
 | (q0,q1,_)=>.tup [.int .i64 q0,.int .u8 q1]
def bits_ends_ahead_2.out (_p0 p1 : Int) (p2 : List Int) : Int × Int × Int → List (Nat × Option MObj)
 | (_,_,q2)=>[(0,some (.cells [.int .i64 q2,.int .i64 p1,.im (.slice (.int .u8)) p2]))]
theorem bits_ends_ahead_2.ok {K : Nat} {p0 p1 : Int} {p2 : List Int} {r : Int × Int × Int} (h0 : bits_ends_ahead_2 K p0 p1 p2 = some r) : Fn Tryz.prog 111 [.p 0 0] [(0,some (.cells [.int .i64 p0,.int .i64 p1,.im (.slice (.int .u8)) p2]))] (bits_ends_ahead_2.res p0 p1 p2 r) (bits_ends_ahead_2.out p0 p1 p2 r):=by
 refine Fn_of Tryz.func111 rfl (Nat.le_of_ble_eq_true rfl) fun Γ=>?_
 refine zr ?_
 refine zv 2 rfl ⟨tv,tv,tv⟩ ?_
 refine zn ?_
 refine zv 5 rfl ⟨tv,tv,tv,⟨tv,tv⟩,tv,tv⟩ ?_
 refine zn ?_
 refine zv 8 rfl ⟨tv,tv,tv,⟨tv,tv⟩,⟨tv,tv,tv⟩,tv,tv,⟨tv,tv⟩,tv⟩ ?_
 refine ze ?_
 refine TC_seq ?_
 refine TC_renw (A':=[(3,.int .u8 0),(4,.int .i64 _)]) (L':=[(0,some (.cells [.int .i64 _,.int .i64 _,.im (.slice (.int .u8)) _]))]) [] ⟨rfl,rfl,tv⟩ ⟨rfl,tv⟩ rfl ?_
 refine zd [[],[0],[],[2],[3,2],[1,0],[5,4,3,2,1,0]] [[],[],[],[],[],[],[]] [[],[],[],[],[],[],[]] [[],[],[],[],[],[],[]] (by kernel_rfl) (by kernel_rfl) ?_
 refine zj 1 rfl rfl rfl tv ?_
 refine zj 2 rfl rfl rfl ⟨tv,tv,(by decide)⟩ ?_
 refine zj 3 rfl rfl rfl tv ?_
 refine zj 4 rfl rfl rfl ⟨tv,tv,(by decide)⟩ ?_
 obtain ⟨g,h0⟩:=gd_t h0
 refine zj 5 rfl rfl rfl ⟨tv,tv,g⟩ ?_
 refine zj 6 rfl rfl rfl tv ?_
 refine zj 7 rfl rfl rfl tv ?_
 refine AJR_end rfl rfl rfl ?_
 refine zu ?_
 obtain rfl:=sinj h0
 exact TE_ret env rfl tv ⟨.inr rfl,tv⟩
theorem bits_ends_ahead_2.ok0 {K : Nat} {p0 p1 : Int} {p2 : List Int} {q0 q1 q2 : Int} (h0 : bits_ends_ahead_2 K p0 p1 p2 = some (q0,q1,q2)) : Fn Tryz.prog 111 [.p 0 0] [(0,some (.cells [.int .i64 p0,.int .i64 p1,.im (.slice (.int .u8)) p2]))] (.tup [.int .i64 q0,.int .u8 q1]) [(0,some (.cells [.int .i64 q2,.int .i64 p1,.im (.slice (.int .u8)) p2]))]:=bits_ends_ahead_2.ok h0
theorem bits_ends_ahead_2.fnb : fnb Tryz.prog 111 = true:=fnb_of Tryz.func111 rfl
def bits_Eye_one.res (_p0 _p1 _p2 _p3 : Int) (_p4 : List Int) : Int → MV
 | q0=>.int .u32 q0
def bits_Eye_one.out (_p0 _p1 p2 p3 : Int) (p4 : List Int) : Int → List (Nat × Option MObj)
 | _=>[(0,some (.cells [.int .i64 p2,.int .i64 p3,.im (.slice (.int .u8)) p4]))]
theorem bits_Eye_one.ok {K : Nat} {p0 p1 p2 p3 : Int} {p4 : List Int} {r : Int} (h0 : bits_Eye_one K p0 p1 p2 p3 p4 = some r) : Fn Tryz.prog 110 [.p 0 0,.int .i64 p0,.int .u8 p1] [(0,some (.cells [.int .i64 p2,.int .i64 p3,.im (.slice (.int .u8)) p4]))] (bits_Eye_one.res p0 p1 p2 p3 p4 r) (bits_Eye_one.out p0 p1 p2 p3 p4 r):=by
 refine Fn_of Tryz.func110 rfl (Nat.le_of_ble_eq_true rfl) fun Γ=>?_
 refine zr ?_
 refine zv 1 rfl ⟨tv,tv⟩ ?_
 refine ze ?_
 refine TC_seq ?_
 refine zr ?_
 obtain ⟨g,h0⟩:=gd_t h0
 refine zv 10 rfl ⟨tv,tv,tv,⟨tv,tv⟩,tv,⟨tv,tv,g.1,g.2⟩,⟨tv,tv⟩,tv,⟨tv,tv,tv⟩,⟨tv,tv,tv⟩,tv⟩ ?_
 refine ze ?_
 refine TC_cond rfl (fun hb=>?_) (fun hb=>?_)
 ·replace h0:=bif_t h0 hb
  refine zr ?_
  refine zv 1 rfl ⟨tv,tv⟩ ?_
  refine ze ?_
  refine TC_ret ?_
  refine tsr ?_
  obtain rfl:=sinj h0
  exact TE_ret env rfl tv ⟨.inr rfl,tv⟩
 ·replace h0:=bif_f h0 hb
  refine TC_skip ?_
  refine zg ?_
  refine zv 1 rfl ⟨tv,tv⟩ ?_
  refine ze ?_
  refine TC_ret ?_
  obtain rfl:=sinj h0
  exact TE_ret env rfl tv ⟨.inr rfl,tv⟩
theorem bits_Eye_one.ok0 {K : Nat} {p0 p1 p2 p3 : Int} {p4 : List Int} {q0 : Int} (h0 : bits_Eye_one K p0 p1 p2 p3 p4 = some q0) : Fn Tryz.prog 110 [.p 0 0,.int .i64 p0,.int .u8 p1] [(0,some (.cells [.int .i64 p2,.int .i64 p3,.im (.slice (.int .u8)) p4]))] (.int .u32 q0) [(0,some (.cells [.int .i64 p2,.int .i64 p3,.im (.slice (.int .u8)) p4]))]:=bits_Eye_one.ok h0
theorem bits_Eye_one.fnb : fnb Tryz.prog 110 = true:=fnb_of Tryz.func110 rfl
def bits_Eye_Front_2.res (_p0 _p1 _p2 : Int) (_p3 : List Int) : Int × Int × Int → MV
 | (q0,q1,_)=>.tup [.int .u32 q0,.int .i64 q1]
def bits_Eye_Front_2.out (_p0 _p1 p2 : Int) (p3 : List Int) : Int × Int × Int → List (Nat × Option MObj)
 | (_,_,q2)=>[(0,some (.cells [.int .i64 q2,.int .i64 p2,.im (.slice (.int .u8)) p3]))]
theorem bits_Eye_Front_2.ok {K : Nat} {p0 p1 p2 : Int} {p3 : List Int} {r : Int × Int × Int} (h0 : bits_Eye_Front_2 K p0 p1 p2 p3 = some r) : Fn Tryz.prog 52 [.p 0 0,.int .i64 p0] [(0,some (.cells [.int .i64 p1,.int .i64 p2,.im (.slice (.int .u8)) p3]))] (bits_Eye_Front_2.res p0 p1 p2 p3 r) (bits_Eye_Front_2.out p0 p1 p2 p3 r):=by
 refine Fn_of Tryz.func52 rfl (Nat.le_of_ble_eq_true rfl) fun Γ=>?_
 refine zr ?_
 refine zv 2 rfl ⟨tv,tv,tv⟩ ?_
 refine ze ?_
 refine TC_seq ?_
 refine zr ?_
 refine zv 2 rfl ⟨tv,⟨tv,tv,tv⟩,tv⟩ ?_
 refine ze ?_
 refine TC_cond rfl (fun hb=>?_) (fun hb=>?_)
 ·first | exact (ftf hb).elim | exact (tff hb).elim | exact absurd hb (by decide)
 ·refine TC_skip ?_
  refine TE_go ?_
  refine TC_seq ?_
  refine TC_seq ?_
  refine TC_renw (A':=[(0,.p 0 0),(1,.int .i64 _)]) (L':=[(0,some (.cells [.int .i64 _,.int .i64 _,.im (.slice (.int .u8)) _]))]) [] ⟨rfl,rfl,tv⟩ ⟨rfl,tv⟩ rfl ?_
  refine zd [[],[0],[1,0],[],[],[4],[5,4],[6,5,4],[7,6,5,4],[8,7,6,5,4,3,2,1,0],[9,8,7,6,5,4,3,2,1,0]] [[],[],[],[],[],[],[],[],[],[0],[]] [[],[],[],[],[],[],[],[],[],[],[]] [[],[],[],[],[],[],[],[],[],[],[]] (by kernel_rfl) (by kernel_rfl) ?_
  refine zj 1 rfl rfl rfl tv ?_
  refine zj 2 rfl rfl rfl tv ?_
  refine zj 3 rfl rfl rfl tv ?_
  refine zj 4 rfl rfl rfl tv ?_
  refine zj 5 rfl rfl rfl tv ?_
  refine zj 6 rfl rfl rfl tv ?_
  refine zj 7 rfl rfl rfl tv ?_
  refine zj 8 rfl rfl rfl ⟨tv,tv⟩ ?_
  refine zj 9 rfl rfl rfl ⟨tv,tv⟩ ?_
  obtain ⟨r26,hr,h0⟩:=bnd h0
  refine AJR_call 10 rfl (Nat.le_of_ble_eq_true rfl) [(0,0)] rfl (bits_ends_may_2.ok0 hr) bits_ends_may_2.fnb rfl ⟨tv,⟨tv,⟨tv,⟨tv,tv⟩⟩⟩⟩ rfl ⟨.inr rfl,tv⟩ rfl ?_
  refine zj 11 rfl rfl rfl tv ?_
  refine AJR_end rfl rfl rfl ?_
  refine zg ?_
  refine zv 2 rfl ⟨tv,⟨tv,tv,tv⟩,tv⟩ ?_
  refine ze ?_
  refine TC_cond rfl (fun hb=>?_) (fun hb=>?_)
  ·replace h0:=bif_t h0 hb
   refine zr ?_
   refine zv 3 rfl ⟨tv,tv,tv,tv⟩ ?_
   refine ze ?_
   refine TC_ret ?_
   refine tsr ?_
   obtain rfl:=sinj h0
   exact TE_ret env rfl tv ⟨.inr rfl,tv⟩
  ·replace h0:=bif_f h0 hb
   refine TC_skip ?_
   refine zg ?_
   refine zv 1 rfl ⟨tv,tv⟩ ?_
   refine ze ?_
   refine TC_seq ?_
   refine zr ?_
   refine zv 2 rfl ⟨tv,tv,tv⟩ ?_
   refine ze ?_
   obtain ⟨z1,h1,h0⟩:=bnd h0
   refine TC_cut (α:=Int × Int) (fun s=>z1 = s) (fun s=>[(7,.int .u32 s.1)]) (fun s=>[(0,some (.cells [.int .i64 s.2,.int .i64 p2,.im (.slice (.int .u8)) p3]))]) ?_ ?_
   ·refine TC_blk ?_
    refine TC_loop (α:=Int × Int × Int) (fun n s=>bits_Eye_Front_2.l0 K p0 p2 p3 n s.1 s.2.1 s.2.2 = some z1) (fun s=>[(0,.p 0 0),(7,.int .u32 s.1),(23,.int .i64 p0),(24,.int .i64 s.2.1)]) (fun s=>[(0,some (.cells [.int .i64 s.2.2,.int .i64 p2,.im (.slice (.int .u8)) p3]))]) K ?_ ?_
    ·exact SP_ren [] (_,_,_) h1 ⟨rfl,rfl,rfl,rfl,tv⟩ ⟨rfl,tv⟩ rfl
    rintro n ⟨x59,x60,x61⟩ h1
    rcases n with _ | n
    ·exact (nsome h1).elim
    replace h1 : bits_Eye_Front_2.r0 K p0 p2 p3 (bits_Eye_Front_2.l0 K p0 p2 p3 n) x59 x60 x61 = some z1:=h1
    refine zr ?_
    refine zv 1 rfl ⟨⟨tv,tv,tv⟩,tv⟩ ?_
    refine ze ?_
    refine TC_seq ?_
    refine TC_cond rfl (fun hb=>?_) (fun hb=>?_)
    ·replace h1:=bif_t h1 hb
     refine TC_skip ?_
     refine TE_go ?_
     refine TC_seq ?_
     refine TC_blk ?_
     refine TC_reg ?_
     refine zv 6 rfl ⟨tv,⟨tv,tv,(by decide)⟩,tv,tv,tv,tv,tv⟩ ?_
     obtain ⟨⟨r79,r80,r81⟩,hr,h1⟩:=bnd h1
     refine TL_callB [(0,0)] (bits_ends_ahead_2.ok0 hr) bits_ends_ahead_2.fnb rfl ⟨tv,⟨tv,tv⟩⟩ rfl ⟨.inr rfl,tv⟩ rfl ?_
     refine zv 2 rfl ⟨tv,tv,tv⟩ ?_
     obtain ⟨r82,hr,h1⟩:=bnd h1
     refine TL_callB [(0,0)] (bits_Eye_one.ok0 hr) bits_Eye_one.fnb rfl ⟨tv,⟨tv,⟨tv,⟨tv,tv⟩⟩⟩⟩ rfl ⟨.inr rfl,tv⟩ rfl ?_
     refine zv 2 rfl ⟨⟨tv,tv,tv⟩,tv,tv⟩ ?_
     refine TL_end ?_
     refine tbn ?_
     refine zt ?_
     refine zv 2 rfl ⟨⟨tv,tv,tv⟩,tv,tv⟩ ?_
     refine zm ?_
     exact TE_nextr [] n (zs n) (_,_,_) h1 ⟨rfl,rfl,rfl,rfl,tv⟩ ⟨rfl,tv⟩ rfl
    ·replace h1:=bif_f h1 hb
     refine TC_exit ?_
     refine tsx ?_
     refine tsx ?_
     refine tbe ?_
     obtain rfl:=sinj h1
     refine tsn ?_
     exact SP_ren [] (_,_) rfl ⟨rfl,tv⟩ ⟨rfl,tv⟩ rfl
   ·rintro ⟨x49,x50⟩ rfl
    refine zg ?_
    refine zv 3 rfl ⟨tv,tv,tv,tv⟩ ?_
    refine ze ?_
    refine TC_ret ?_
    obtain rfl:=sinj h0
    exact TE_ret env rfl tv ⟨.inr rfl,tv⟩
theorem bits_Eye_Front_2.ok0 {K : Nat} {p0 p1 p2 : Int} {p3 : List Int} {q0 q1 q2 : Int} (h0 : bits_Eye_Front_2 K p0 p1 p2 p3 = some (q0,q1,q2)) : Fn Tryz.prog 52 [.p 0 0,.int .i64 p0] [(0,some (.cells [.int .i64 p1,.int .i64 p2,.im (.slice (.int .u8)) p3]))] (.tup [.int .u32 q0,.int .i64 q1]) [(0,some (.cells [.int .i64 q2,.int .i64 p2,.im (.slice (.int .u8)) p3]))]:=bits_Eye_Front_2.ok h0
theorem bits_Eye_Front_2.fnb : fnb Tryz.prog 52 = true:=fnb_of Tryz.func52 rfl
def subband_take_2.res (_p0 _p1 _p2 _p3 : Int) (_p4 : List Int) : (List Int) × Int → MV
 | (q0,_)=>.im (.slice (.int .i64)) q0
def subband_take_2.out (_p0 _p1 _p2 p3 : Int) (p4 : List Int) : (List Int) × Int → List (Nat × Option MObj)
 | (_,q1)=>[(0,some (.cells [.int .i64 q1,.int .i64 p3,.im (.slice (.int .u8)) p4]))]
theorem subband_take_2.ok {K : Nat} {p0 p1 p2 p3 : Int} {p4 : List Int} {r : (List Int) × Int} (h0 : subband_take_2 K p0 p1 p2 p3 p4 = some r) : Fn Tryz.prog 53 [.p 0 0,.int .i64 p0,.int .i64 p1] [(0,some (.cells [.int .i64 p2,.int .i64 p3,.im (.slice (.int .u8)) p4]))] (subband_take_2.res p0 p1 p2 p3 p4 r) (subband_take_2.out p0 p1 p2 p3 p4 r):=by
 refine Fn_of Tryz.func53 rfl (Nat.le_of_ble_eq_true rfl) fun Γ=>?_
 refine zr ?_
 refine zv 1 rfl ⟨tv,tv⟩ ?_
 refine zn ?_
 obtain ⟨g,h0⟩:=gd_t h0
 refine zv 3 rfl ⟨tv,⟨tv,tv,g.1,g.2.1,g.2.2⟩,tv,tv⟩ ?_
 refine ze ?_
 refine TC_seq ?_
 refine zr ?_
 refine zv 3 rfl ⟨tv,⟨tv,tv⟩,tv,tv⟩ ?_
 refine ze ?_
 obtain ⟨z1,h1,h0⟩:=bnd h0
 refine TC_cut (α:=Int × (List Int)) (fun s=>z1 = s) (fun s=>[(7,.sl 10801)]) (fun s=>[(0,some (.cells [.int .i64 s.1,.int .i64 p3,.im (.slice (.int .u8)) p4])),(10801,some (.rows (.int .i64) s.2))]) ?_ ?_
 ·refine TC_blk ?_
  refine TC_loop (α:=Int × Int × (List Int)) (fun n s=>subband_take_2.l0 K p1 ((List.replicate (Int.toNat p0) (0 : Int)).length : Int) p3 p4 n s.1 s.2.1 s.2.2 = some z1) (fun s=>[(0,.p 0 0),(2,.int .i64 p1),(7,.sl 11001),(14,.int .i64 ((List.replicate (Int.toNat p0) (0 : Int)).length : Int)),(15,.int .i64 s.1)]) (fun s=>[(0,some (.cells [.int .i64 s.2.1,.int .i64 p3,.im (.slice (.int .u8)) p4])),(11001,some (.rows (.int .i64) s.2.2))]) K ?_ ?_
  ·exact SP_ren [(11001,1012)] (_,_,_) h1 ⟨rfl,rfl,rfl,rfl,rfl,tv⟩ ⟨rfl,rfl,tv⟩ rfl
  rintro n ⟨x49,x50,x51⟩ h1
  rcases n with _ | n
  ·exact (nsome h1).elim
  replace h1 : subband_take_2.r0 K p1 ((List.replicate (Int.toNat p0) (0 : Int)).length : Int) p3 p4 (subband_take_2.l0 K p1 ((List.replicate (Int.toNat p0) (0 : Int)).length : Int) p3 p4 n) x49 x50 x51 = some z1:=h1
  refine zr ?_
  refine zv 1 rfl ⟨⟨tv,tv,tv⟩,tv⟩ ?_
  refine ze ?_
  refine TC_seq ?_
  refine TC_cond rfl (fun hb=>?_) (fun hb=>?_)
  ·replace h1:=bif_t h1 hb
   refine TC_skip ?_
   refine TE_go ?_
   refine TC_seq ?_
   refine TC_blk ?_
   refine zr ?_
   refine zv 2 rfl ⟨tv,tv,tv⟩ ?_
   refine zn ?_
   refine zv 2 rfl ⟨tv,tv,tv⟩ ?_
   obtain ⟨⟨r65,r66,r67⟩,hr,h1⟩:=bnd h1
   refine TL_callB [(0,0)] (bits_Eye_Front_2.ok0 hr) bits_Eye_Front_2.fnb rfl ⟨tv,⟨tv,⟨tv,tv⟩⟩⟩ rfl ⟨.inr rfl,tv⟩ rfl ?_
   refine zv 5 rfl ⟨tv,tv,tv,tv,tv,tv⟩ ?_
   refine ze ?_
   refine TC_reg ?_
   obtain ⟨g,h1⟩:=gd_t h1
   refine zv 6 rfl ⟨tv,tv,tv,tv,⟨tv,tv,g.1,g.2.1⟩,⟨tv,tv,g.2.2⟩,tv⟩ ?_
   refine TL_end ?_
   refine tbn ?_
   refine zt ?_
   refine zv 2 rfl ⟨⟨tv,tv,tv⟩,tv,tv⟩ ?_
   refine zm ?_
   exact TE_nextr [(11001,11001)] n (zs n) (_,_,_) h1 ⟨rfl,rfl,rfl,rfl,rfl,tv⟩ ⟨rfl,rfl,tv⟩ rfl
  ·replace h1:=bif_f h1 hb
   refine TC_exit ?_
   refine tsx ?_
   refine tsx ?_
   refine tbe ?_
   obtain rfl:=sinj h1
   refine tsn ?_
   exact SP_ren [(10801,11001)] (_,_) rfl ⟨rfl,tv⟩ ⟨rfl,rfl,tv⟩ rfl
 ·rintro ⟨x41,x42⟩ rfl
  refine zg ?_
  refine zv 2 rfl ⟨tv,tv,tv⟩ ?_
  refine ze ?_
  refine TC_ret ?_
  refine TE_frz 10801 rfl ?_
  obtain rfl:=sinj h0
  exact TE_ret env rfl tv ⟨.inr rfl,tv⟩
theorem subband_take_2.ok0 {K : Nat} {p0 p1 p2 p3 : Int} {p4 q0 : List Int} {q1 : Int} (h0 : subband_take_2 K p0 p1 p2 p3 p4 = some (q0,q1)) : Fn Tryz.prog 53 [.p 0 0,.int .i64 p0,.int .i64 p1] [(0,some (.cells [.int .i64 p2,.int .i64 p3,.im (.slice (.int .u8)) p4]))] (.im (.slice (.int .i64)) q0) [(0,some (.cells [.int .i64 q1,.int .i64 p3,.im (.slice (.int .u8)) p4]))]:=subband_take_2.ok h0
theorem subband_take_2.fnb : fnb Tryz.prog 53 = true:=fnb_of Tryz.func53 rfl
def subband_Parse.res (_p0 _p1 _p2 _p3 _p4 _p5 _p6 _p7 _p8 _p9 : Int) (_p10 : List Int) : (List Int) × (List (List Int)) × (List (List (List Int))) × Int → MV
 | (q0,q1,q2,q3)=>.tup [.agg [.im (.slice (.int .i64)) q0,.im (.slice (.slice (.int .i64))) q1,.im (.slice (.slice (.slice (.int .i64)))) q2],.int .i64 q3]
def subband_Parse.out (_p0 _p1 _p2 _p3 _p4 _p5 _p6 _p7 _p8 _p9 : Int) (_p10 : List Int) : (List Int) × (List (List Int)) × (List (List (List Int))) × Int → List (Nat × Option MObj)
 | (_,_,_,_)=>[]
theorem subband_Parse.ok {K : Nat} {p0 p1 p2 p3 p4 p5 p6 p7 p8 p9 : Int} {p10 : List Int} {r : (List Int) × (List (List Int)) × (List (List (List Int))) × Int} (h0 : subband_Parse K p0 p1 p2 p3 p4 p5 p6 p7 p8 p9 p10 = some r) : Fn Tryz.prog 14 [.agg [.int .i64 p0,.int .i64 p1,.int .i64 p2,.int .i64 p3,.int .i64 p4,.int .i64 p5,.int .i64 p6,.int .i64 p7,.int .i64 p8,.int .i64 p9],.im (.slice (.int .u8)) p10] [] (subband_Parse.res p0 p1 p2 p3 p4 p5 p6 p7 p8 p9 p10 r) (subband_Parse.out p0 p1 p2 p3 p4 p5 p6 p7 p8 p9 p10 r):=by
 refine Fn_of Tryz.func14 rfl (Nat.le_of_ble_eq_true rfl) fun Γ=>?_
 unfold subband_Parse at h0
 refine zr ?_
 refine zv 3 rfl ⟨tv,tv,tv,tv⟩ ?_
 refine ze ?_
 refine TC_seq ?_
 refine zr ?_
 refine zv 1 rfl ⟨⟨tv,tv⟩,tv⟩ ?_
 obtain ⟨r514,hr,h0⟩:=bnd h0
 refine TL_callB [] (subband_may.ok0 hr) subband_may.fnb rfl ⟨tv,⟨tv,tv⟩⟩ rfl tv rfl ?_
 refine zv 1 rfl ⟨tv,tv⟩ ?_
 refine zn ?_
 refine zv 2 rfl ⟨tv,⟨tv,tv,tv⟩,tv⟩ ?_
 refine ze ?_
 refine TC_cond rfl (fun hb=>?_) (fun hb=>?_)
 ·replace h0:=bif_t h0 hb
  refine zr ?_
  refine zv 4 rfl ⟨tv,tv,⟨tv,tv⟩,tv,tv⟩ ?_
  refine ze ?_
  refine TC_ret ?_
  refine tsr ?_
  refine TE_imnC 1004 0 (.int .i64) rfl rfl ?_
  refine TE_imnC 1004 1 (.slice (.int .i64)) rfl rfl ?_
  refine TE_imnC 1004 2 (.slice (.slice (.int .i64))) rfl rfl ?_
  obtain rfl:=sinj h0
  exact TE_ret env rfl ⟨tv,tv⟩ tv
 ·replace h0:=bif_f h0 hb
  refine TC_skip ?_
  refine TE_go ?_
  refine TC_seq ?_
  refine zr ?_
  refine zv 3 rfl ⟨tv,⟨tv,tv⟩,⟨tv,tv⟩,tv⟩ ?_
  obtain ⟨r515,hr,h0⟩:=bnd h0
  refine TL_callB [] (format_Payload.ok0 hr) format_Payload.fnb rfl ⟨tv,⟨tv,tv⟩⟩ rfl tv rfl ?_
  refine zv 1 rfl ⟨⟨tv,tv,tv⟩,tv⟩ ?_
  refine ze ?_
  refine TC_cond rfl (fun hb=>?_) (fun hb=>?_)
  ·replace h0:=bif_t h0 hb
   refine zr ?_
   refine zv 3 rfl ⟨tv,⟨tv,tv⟩,tv,tv⟩ ?_
   refine ze ?_
   refine TC_ret ?_
   refine tsr ?_
   refine TE_imnC 1004 0 (.int .i64) rfl rfl ?_
   refine TE_imnC 1004 1 (.slice (.int .i64)) rfl rfl ?_
   refine TE_imnC 1004 2 (.slice (.slice (.int .i64))) rfl rfl ?_
   obtain rfl:=sinj h0
   exact TE_ret env rfl ⟨tv,tv⟩ tv
  ·replace h0:=bif_f h0 hb
   refine TC_skip ?_
   refine zg ?_
   refine zv 1 rfl ⟨tv,tv⟩ ?_
   obtain ⟨z,hr,h0⟩:=bnd h0
   rcases z with ⟨⟩ | r517
   ·refine TL_callB [] (bits_Open.ok0 hr) bits_Open.fnb rfl ⟨tv,⟨tv,tv⟩⟩ rfl tv rfl ?_
    refine zv 5 rfl ⟨tv,tv,tv,tv,tv,tv⟩ ?_
    refine zn ?_
    refine zv 1 rfl ⟨tv,tv⟩ ?_
    obtain ⟨⟨⟩,hr,h0⟩:=bnd h0
    refine TL_callB [] (bits_Eye_Front.ok0 hr) bits_Eye_Front.fnb rfl ⟨tv,⟨tv,⟨tv,tv⟩⟩⟩ rfl tv rfl ?_
    refine zn ?_
    obtain ⟨g,h0⟩:=gd_t h0
    refine zv 6 rfl ⟨tv,⟨tv,tv⟩,⟨tv,tv,g.1,g.2.1,g.2.2⟩,⟨tv,tv⟩,tv,⟨tv,tv⟩,tv⟩ ?_
    refine ze ?_
    refine TC_seq ?_
    refine zr ?_
    refine zv 3 rfl ⟨tv,⟨tv,tv⟩,⟨tv,tv,tv⟩,tv⟩ ?_
    refine ze ?_
    obtain ⟨z1,h1,h0⟩:=bnd h0
    refine TC_cut (α:=(List Int)) (fun s=>z1 = s) (fun s=>[(1,.im (.slice (.int .u8)) p10),(2,.p 28100 0),(4,.p 28101 0),(7,.nilp),(9,.p 28102 0)]) (fun s=>[(28100,some (.cells [.int .i64 p0,.int .i64 p1,.int .i64 p2,.int .i64 p3,.int .i64 p4,.int .i64 p5,.int .i64 p6,.int .i64 p7,.int .i64 p8,.int .i64 p9])),(28101,some (.cells [.nils,.nils,.nils])),(28102,some (.cells [.im (.slice (.int .i64)) s,.nils,.nils]))]) ?_ ?_
    ·refine TC_cond rfl (fun hb=>?_) (fun hb=>?_)
     ·replace h1:=bif_t h1 hb
      refine TC_reg ?_
      refine zv 3 rfl ⟨tv,tv,⟨tv,tv⟩,tv⟩ ?_
      obtain ⟨r1052,hr,h1⟩:=bnd h1
      refine TL_callB [] (subband_take.ok0 hr) subband_take.fnb rfl ⟨tv,⟨tv,⟨tv,⟨tv,tv⟩⟩⟩⟩ rfl tv rfl ?_
      refine zv 2 rfl ⟨tv,⟨tv,tv⟩,tv⟩ ?_
      refine TL_end ?_
      obtain rfl:=sinj h1
      refine tsn ?_
      exact SP_ren [(28100,1002),(28101,1004),(28102,1009)] _ rfl ⟨rfl,rfl,rfl,rfl,rfl,tv⟩ ⟨rfl,rfl,rfl,tv⟩ rfl
     ·replace h1:=bif_f h1 hb
      refine TC_skip ?_
      obtain rfl:=sinj h1
      refine tsn ?_
      refine TE_frz 1038 rfl ?_
      exact SP_ren [(28100,1002),(28101,1004),(28102,1009)] _ rfl ⟨rfl,rfl,rfl,rfl,rfl,tv⟩ ⟨rfl,rfl,rfl,tv⟩ rfl
    ·rintro x520 hz
     obtain rfl:=hz.symm
     refine TE_go ?_
     refine TC_seq ?_
     refine zr ?_
     refine zv 3 rfl ⟨tv,⟨tv,tv⟩,tv,tv⟩ ?_
     refine ze ?_
     obtain ⟨z1,h1,h0⟩:=bnd h0
     refine TC_cut (α:=(List (List Int))) (fun s=>z1 = s) (fun s=>[(1,.im (.slice (.int .u8)) p10),(2,.p 28500 0),(4,.p 28501 0),(7,.nilp),(9,.p 28502 0)]) (fun s=>[(28500,some (.cells [.int .i64 p0,.int .i64 p1,.int .i64 p2,.int .i64 p3,.int .i64 p4,.int .i64 p5,.int .i64 p6,.int .i64 p7,.int .i64 p8,.int .i64 p9])),(28501,some (.cells [.nils,.nils,.nils])),(28502,some (.cells [.im (.slice (.int .i64)) x520,.sl 28503,.nils])),(28503,some (.rows (.slice (.int .i64)) s))]) ?_ ?_
     ·refine TC_blk ?_
      refine TC_loop (α:=Int × (List (List Int))) (fun n s=>subband_Parse.l3 K p10 p2 p0 p1 p3 p4 p5 p6 p7 p8 p9 x520 n s.1 s.2 = some z1) (fun s=>[(1,.im (.slice (.int .u8)) p10),(2,.p 52500 0),(4,.p 52501 0),(7,.nilp),(9,.p 52502 0),(49,.int .i64 p2),(50,.int .i64 s.1)]) (fun s=>[(52500,some (.cells [.int .i64 p0,.int .i64 p1,.int .i64 p2,.int .i64 p3,.int .i64 p4,.int .i64 p5,.int .i64 p6,.int .i64 p7,.int .i64 p8,.int .i64 p9])),(52501,some (.cells [.nils,.nils,.nils])),(52502,some (.cells [.im (.slice (.int .i64)) x520,.sl 52503,.nils])),(52503,some (.rows (.slice (.int .i64)) s.2))]) K ?_ ?_
      ·refine TE_ownC 28102 1 1462041 (.slice (.int .i64)) rfl rfl (by decide) rfl rfl ?_
       exact SP_ren [(52500,28100),(52501,28101),(52502,28102),(52503,1462041)] (_,_) h1 ⟨rfl,rfl,rfl,rfl,rfl,rfl,rfl,tv⟩ ⟨rfl,rfl,rfl,rfl,tv⟩ rfl
      rintro n ⟨x1041,x1042⟩ h1
      rcases n with _ | n
      ·exact (nsome h1).elim
      replace h1 : subband_Parse.r3 K p10 p2 p0 p1 p3 p4 p5 p6 p7 p8 p9 x520 (subband_Parse.l3 K p10 p2 p0 p1 p3 p4 p5 p6 p7 p8 p9 x520 n) x1041 x1042 = some z1:=h1
      refine zr ?_
      refine zv 1 rfl ⟨⟨tv,tv,tv⟩,tv⟩ ?_
      refine ze ?_
      refine TC_seq ?_
      refine TC_cond rfl (fun hb=>?_) (fun hb=>?_)
      ·replace h1:=bif_t h1 hb
       refine TC_skip ?_
       refine TE_go ?_
       refine TC_seq ?_
       refine TC_blk ?_
       refine TC_renw (A':=[(1,.im (.slice (.int .u8)) _),(2,.p 52500 0),(4,.p 52501 0),(7,.nilp),(9,.p 52502 0),(49,.int .i64 _),(50,.int .i64 _)]) (L':=[(52500,some (.cells [.int .i64 _,.int .i64 _,.int .i64 _,.int .i64 _,.int .i64 _,.int .i64 _,.int .i64 _,.int .i64 _,.int .i64 _,.int .i64 _])),(52501,some (.cells [.nils,.nils,.nils])),(52502,some (.cells [.im (.slice (.int .i64)) _,.sl 52503,.nils])),(52503,some (.rows (.slice (.int .i64)) _))]) [] ⟨rfl,rfl,rfl,rfl,rfl,rfl,rfl,tv⟩ ⟨rfl,rfl,rfl,rfl,tv⟩ rfl ?_
       refine zd [[],[0],[],[],[3],[4,3,2],[5,4,3,2],[6,5,4,3,2,1,0],[7,6,5,4,3,2,1,0],[8,7,6,5,4,3,2,1,0]] [[],[],[],[],[],[],[1058],[1059,52503],[],[52502]] [[],[],[],[],[],[],[1058],[1059],[],[]] [[1058],[1058],[],[],[],[],[],[],[],[]] (by kernel_rfl) (by kernel_rfl) ?_
       refine zj 1 rfl rfl rfl tv ?_
       refine zj 2 rfl rfl rfl ⟨tv,tv⟩ ?_
       refine zj 3 rfl rfl rfl tv ?_
       refine zj 4 rfl rfl rfl tv ?_
       refine zj 5 rfl rfl rfl ⟨tv,tv⟩ ?_
       obtain ⟨r1049,hr,h1⟩:=bnd h1
       refine AJR_call 6 rfl (Nat.le_of_ble_eq_true rfl) [] rfl (subband_take.ok0 hr) subband_take.fnb rfl ⟨tv,⟨tv,⟨tv,⟨tv,tv⟩⟩⟩⟩ rfl tv rfl ?_
       refine zj 7 rfl rfl rfl ⟨tv,tv⟩ ?_
       obtain ⟨g,h1⟩:=gd_t h1
       refine zj 8 rfl rfl rfl ⟨⟨tv,tv,tv⟩,g⟩ ?_
       refine zj 9 rfl rfl rfl tv ?_
       refine zj 10 rfl rfl rfl ⟨tv,tv⟩ ?_
       refine AJR_end rfl rfl rfl ?_
       refine tbn ?_
       refine zt ?_
       refine zv 2 rfl ⟨⟨tv,tv,tv⟩,tv,tv⟩ ?_
       refine zm ?_
       exact TE_nextr [(52500,52500),(52501,52501),(52502,52502),(52503,1059)] n (zs n) (_,_) h1 ⟨rfl,rfl,rfl,rfl,rfl,rfl,rfl,tv⟩ ⟨rfl,rfl,rfl,rfl,tv⟩ rfl
      ·replace h1:=bif_f h1 hb
       refine TC_exit ?_
       refine tsx ?_
       refine tsx ?_
       refine tbe ?_
       obtain rfl:=sinj h1
       refine tsn ?_
       exact SP_ren [(28500,52500),(28501,52501),(28502,52502),(28503,52503)] _ rfl ⟨rfl,rfl,rfl,rfl,rfl,tv⟩ ⟨rfl,rfl,rfl,rfl,tv⟩ rfl
     ·rintro x529 hz
      obtain rfl:=hz.symm
      refine zg ?_
      refine zv 3 rfl ⟨⟨tv,tv⟩,tv,⟨tv,tv⟩,tv⟩ ?_
      refine TL_frz 28503 rfl ?_
      obtain ⟨⟨r530,r531⟩,hr,h0⟩:=bnd h0
      refine TL_callB [] (alloc_Share.ok0 hr) alloc_Share.fnb rfl ⟨tv,⟨tv,⟨tv,tv⟩⟩⟩ rfl tv rfl ?_
      refine zv 5 rfl ⟨tv,tv,tv,tv,tv,tv⟩ ?_
      refine ze ?_
      refine TC_seq ?_
      refine zr ?_
      refine zv 2 rfl ⟨tv,⟨tv,tv,tv⟩,tv⟩ ?_
      refine ze ?_
      refine TC_cond rfl (fun hb=>?_) (fun hb=>?_)
      ·replace h0:=bif_t h0 hb
       refine zr ?_
       refine zv 3 rfl ⟨tv,⟨tv,tv⟩,tv,tv⟩ ?_
       refine ze ?_
       refine TC_ret ?_
       refine tsr ?_
       refine TE_imnC 28501 0 (.int .i64) rfl rfl ?_
       refine TE_imnC 28501 1 (.slice (.int .i64)) rfl rfl ?_
       refine TE_imnC 28501 2 (.slice (.slice (.int .i64))) rfl rfl ?_
       obtain rfl:=sinj h0
       exact TE_ret env rfl ⟨tv,tv⟩ tv
      ·replace h0:=bif_f h0 hb
       refine TC_skip ?_
       refine TE_go ?_
       refine TC_seq ?_
       refine zr ?_
       refine zv 3 rfl ⟨tv,⟨tv,tv⟩,tv,tv⟩ ?_
       refine ze ?_
       obtain ⟨z1,h1,h0⟩:=bnd h0
       refine TC_cut (α:=(List (List (List Int)))) (fun s=>z1 = s) (fun s=>[(1,.im (.slice (.int .u8)) p10),(2,.p 36900 0),(4,.p 36901 0),(9,.p 36902 0)]) (fun s=>[(36900,some (.cells [.int .i64 p0,.int .i64 p1,.int .i64 p2,.int .i64 p3,.int .i64 p4,.int .i64 p5,.int .i64 p6,.int .i64 p7,.int .i64 p8,.int .i64 p9])),(36901,some (.cells [.nils,.nils,.nils])),(36902,some (.cells [.im (.slice (.int .i64)) x520,.im (.slice (.slice (.int .i64))) x529,.sl 36903])),(36903,some (.rows (.slice (.slice (.int .i64))) s))]) ?_ ?_
       ·refine TC_blk ?_
        refine TC_loop (α:=Int × (List (List (List Int)))) (fun n s=>subband_Parse.l0 K p10 r530 p4 p0 p1 p2 p3 p5 p6 p7 p8 p9 x520 x529 n s.1 s.2 = some z1) (fun s=>[(1,.im (.slice (.int .u8)) p10),(2,.p 41200 0),(4,.p 41201 0),(7,.nilp),(9,.p 41202 0),(10,.im (.slice (.slice (.int .i64))) r530),(73,.int .i64 p4),(74,.int .i64 s.1)]) (fun s=>[(41200,some (.cells [.int .i64 p0,.int .i64 p1,.int .i64 p2,.int .i64 p3,.int .i64 p4,.int .i64 p5,.int .i64 p6,.int .i64 p7,.int .i64 p8,.int .i64 p9])),(41201,some (.cells [.nils,.nils,.nils])),(41202,some (.cells [.im (.slice (.int .i64)) x520,.im (.slice (.slice (.int .i64))) x529,.sl 41203])),(41203,some (.rows (.slice (.slice (.int .i64))) s.2))]) K ?_ ?_
        ·refine TE_ownC 28502 2 1470042 (.slice (.slice (.int .i64))) rfl rfl (by decide) rfl rfl ?_
         exact SP_ren [(41200,28500),(41201,28501),(41202,28502),(41203,1470042)] (_,_) h1 ⟨rfl,rfl,rfl,rfl,rfl,rfl,rfl,rfl,tv⟩ ⟨rfl,rfl,rfl,rfl,tv⟩ rfl
        rintro n ⟨x788,x789⟩ h1
        rcases n with _ | n
        ·exact (nsome h1).elim
        replace h1 : subband_Parse.r0 K p10 r530 p4 p0 p1 p2 p3 p5 p6 p7 p8 p9 x520 x529 (subband_Parse.l0 K p10 r530 p4 p0 p1 p2 p3 p5 p6 p7 p8 p9 x520 x529 n) x788 x789 = some z1:=h1
        refine zr ?_
        refine zv 1 rfl ⟨⟨tv,tv,tv⟩,tv⟩ ?_
        refine ze ?_
        refine TC_seq ?_
        refine TC_cond rfl (fun hb=>?_) (fun hb=>?_)
        ·replace h1:=bif_t h1 hb
         refine TC_skip ?_
         refine TE_go ?_
         refine TC_seq ?_
         refine TC_blk ?_
         refine zr ?_
         obtain ⟨g,h1⟩:=gd_t h1
         refine zv 4 rfl ⟨tv,⟨tv,tv⟩,⟨tv,tv,g.1,g.2.1,g.2.2⟩,tv,tv⟩ ?_
         refine ze ?_
         refine TC_seq ?_
         refine zr ?_
         refine zv 3 rfl ⟨tv,⟨tv,tv⟩,tv,tv⟩ ?_
         refine ze ?_
         obtain ⟨z2,h2,h1⟩:=bnd h1
         refine TC_cut (α:=(List (List Int))) (fun s=>z2 = s) (fun s=>[(1,.im (.slice (.int .u8)) p10),(2,.p 49300 0),(4,.p 49301 0),(7,.nilp),(9,.p 49302 0),(10,.im (.slice (.slice (.int .i64))) r530),(12,.sl 49303),(73,.int .i64 p4),(74,.int .i64 x788)]) (fun s=>[(49300,some (.cells [.int .i64 p0,.int .i64 p1,.int .i64 p2,.int .i64 p3,.int .i64 p4,.int .i64 p5,.int .i64 p6,.int .i64 p7,.int .i64 p8,.int .i64 p9])),(49301,some (.cells [.nils,.nils,.nils])),(49302,some (.cells [.im (.slice (.int .i64)) x520,.im (.slice (.slice (.int .i64))) x529,.sl 49304])),(49303,some (.rr true (.int .i64) s none)),(49304,some (.rows (.slice (.slice (.int .i64))) x789))]) ?_ ?_
         ·refine TC_blk ?_
          refine TC_loop (α:=Int × (List (List Int))) (fun n s=>subband_Parse.l1 K p10 r530 p4 x788 ((List.replicate (Int.toNat p2) ([] : List Int)).length : Int) p0 p1 p2 p3 p5 p6 p7 p8 p9 x520 x529 x789 n s.1 s.2 = some z2) (fun s=>[(1,.im (.slice (.int .u8)) p10),(2,.p 50300 0),(4,.p 50301 0),(7,.nilp),(9,.p 50302 0),(10,.im (.slice (.slice (.int .i64))) r530),(12,.sl 50303),(73,.int .i64 p4),(74,.int .i64 x788),(80,.int .i64 ((List.replicate (Int.toNat p2) ([] : List Int)).length : Int)),(81,.int .i64 s.1)]) (fun s=>[(50300,some (.cells [.int .i64 p0,.int .i64 p1,.int .i64 p2,.int .i64 p3,.int .i64 p4,.int .i64 p5,.int .i64 p6,.int .i64 p7,.int .i64 p8,.int .i64 p9])),(50301,some (.cells [.nils,.nils,.nils])),(50302,some (.cells [.im (.slice (.int .i64)) x520,.im (.slice (.slice (.int .i64))) x529,.sl 50304])),(50303,some (.rr true (.int .i64) s.2 none)),(50304,some (.rows (.slice (.slice (.int .i64))) x789))]) K ?_ ?_
          ·exact SP_ren [(50300,41200),(50301,41201),(50302,41202),(50303,1078),(50304,41203)] (_,_) h2 ⟨rfl,rfl,rfl,rfl,rfl,rfl,rfl,rfl,rfl,rfl,rfl,tv⟩ ⟨rfl,rfl,rfl,rfl,rfl,tv⟩ rfl
          rintro n ⟨x979,x980⟩ h2
          rcases n with _ | n
          ·exact (nsome h2).elim
          replace h2 : subband_Parse.r1 K p10 r530 p4 x788 ((List.replicate (Int.toNat p2) ([] : List Int)).length : Int) p0 p1 p2 p3 p5 p6 p7 p8 p9 x520 x529 x789 (subband_Parse.l1 K p10 r530 p4 x788 ((List.replicate (Int.toNat p2) ([] : List Int)).length : Int) p0 p1 p2 p3 p5 p6 p7 p8 p9 x520 x529 x789 n) x979 x980 = some z2:=h2
          refine zr ?_
          refine zv 1 rfl ⟨⟨tv,tv,tv⟩,tv⟩ ?_
          refine ze ?_
          refine TC_seq ?_
          refine TC_cond rfl (fun hb=>?_) (fun hb=>?_)
          ·replace h2:=bif_t h2 hb
           refine TC_skip ?_
           refine TE_go ?_
           refine TC_seq ?_
           refine TC_blk ?_
           refine zr ?_
           refine zv 2 rfl ⟨tv,tv,tv⟩ ?_
           refine zn ?_
           obtain ⟨g,h2⟩:=gd_t h2
           refine zv 6 rfl ⟨tv,tv,⟨tv,tv,g.1,g.2⟩,⟨tv,tv⟩,⟨tv,tv⟩,tv,tv⟩ ?_
           refine ze ?_
           obtain ⟨z3,h3,h2⟩:=bnd h2
           refine TC_cut (α:=(List (List Int))) (fun s=>z3 = s) (fun s=>[(1,.im (.slice (.int .u8)) p10),(2,.p 52000 0),(4,.p 52001 0),(7,.nilp),(9,.p 52002 0),(10,.im (.slice (.slice (.int .i64))) r530),(12,.sl 52003),(73,.int .i64 p4),(74,.int .i64 x788),(80,.int .i64 ((List.replicate (Int.toNat p2) ([] : List Int)).length : Int)),(81,.int .i64 x979)]) (fun s=>[(52000,some (.cells [.int .i64 p0,.int .i64 p1,.int .i64 p2,.int .i64 p3,.int .i64 p4,.int .i64 p5,.int .i64 p6,.int .i64 p7,.int .i64 p8,.int .i64 p9])),(52001,some (.cells [.nils,.nils,.nils])),(52002,some (.cells [.im (.slice (.int .i64)) x520,.im (.slice (.slice (.int .i64))) x529,.sl 52004])),(52003,some (.rr true (.int .i64) s none)),(52004,some (.rows (.slice (.slice (.int .i64))) x789))]) ?_ ?_
           ·refine TC_blk ?_
            refine TC_loop (α:=Int × (List (List Int))) (fun n s=>subband_Parse.l2 K p10 r530 x979 p4 x788 ((List.replicate (Int.toNat p2) ([] : List Int)).length : Int) (Kd.nth (.slice (.int .i64)) r530 (Int.toNat x979)) ((Kd.nth (.slice (.int .i64)) r530 (Int.toNat x979)).length : Int) p0 p1 p2 p3 p5 p6 p7 p8 p9 x520 x529 x789 n s.1 s.2 = some z3) (fun s=>[(1,.im (.slice (.int .u8)) p10),(2,.p 52200 0),(4,.p 52201 0),(7,.nilp),(9,.p 52202 0),(10,.im (.slice (.slice (.int .i64))) r530),(12,.sl 52203),(13,.int .i64 x979),(73,.int .i64 p4),(74,.int .i64 x788),(80,.int .i64 ((List.replicate (Int.toNat p2) ([] : List Int)).length : Int)),(81,.int .i64 x979),(87,.im (.slice (.int .i64)) (Kd.nth (.slice (.int .i64)) r530 (Int.toNat x979))),(88,.int .i64 ((Kd.nth (.slice (.int .i64)) r530 (Int.toNat x979)).length : Int)),(89,.int .i64 s.1)]) (fun s=>[(52200,some (.cells [.int .i64 p0,.int .i64 p1,.int .i64 p2,.int .i64 p3,.int .i64 p4,.int .i64 p5,.int .i64 p6,.int .i64 p7,.int .i64 p8,.int .i64 p9])),(52201,some (.cells [.nils,.nils,.nils])),(52202,some (.cells [.im (.slice (.int .i64)) x520,.im (.slice (.slice (.int .i64))) x529,.sl 52204])),(52203,some (.rr true (.int .i64) s.2 none)),(52204,some (.rows (.slice (.slice (.int .i64))) x789))]) K ?_ ?_
            ·exact SP_ren [(52200,50300),(52201,50301),(52202,50302),(52203,50303),(52204,50304)] (_,_) h3 ⟨rfl,rfl,rfl,rfl,rfl,rfl,rfl,rfl,rfl,rfl,rfl,rfl,rfl,rfl,rfl,tv⟩ ⟨rfl,rfl,rfl,rfl,rfl,tv⟩ rfl
            rintro n ⟨x1025,x1026⟩ h3
            rcases n with _ | n
            ·exact (nsome h3).elim
            replace h3 : subband_Parse.r2 K p10 r530 x979 p4 x788 ((List.replicate (Int.toNat p2) ([] : List Int)).length : Int) (Kd.nth (.slice (.int .i64)) r530 (Int.toNat x979)) ((Kd.nth (.slice (.int .i64)) r530 (Int.toNat x979)).length : Int) p0 p1 p2 p3 p5 p6 p7 p8 p9 x520 x529 x789 (subband_Parse.l2 K p10 r530 x979 p4 x788 ((List.replicate (Int.toNat p2) ([] : List Int)).length : Int) (Kd.nth (.slice (.int .i64)) r530 (Int.toNat x979)) ((Kd.nth (.slice (.int .i64)) r530 (Int.toNat x979)).length : Int) p0 p1 p2 p3 p5 p6 p7 p8 p9 x520 x529 x789 n) x1025 x1026 = some z3:=h3
            refine zr ?_
            refine zv 1 rfl ⟨⟨tv,tv,tv⟩,tv⟩ ?_
            refine ze ?_
            refine TC_seq ?_
            refine TC_cond rfl (fun hb=>?_) (fun hb=>?_)
            ·replace h3:=bif_t h3 hb
             refine TC_skip ?_
             refine TE_go ?_
             refine TC_seq ?_
             refine TC_blk ?_
             refine zr ?_
             obtain ⟨g,h3⟩:=gd_t h3
             refine zv 3 rfl ⟨⟨tv,tv,g.1,g.2⟩,⟨tv,tv⟩,tv,tv⟩ ?_
             refine ze ?_
             refine TC_renw (A':=[(1,.im (.slice (.int .u8)) _),(2,.p 52200 0),(4,.p 52201 0),(7,.nilp),(9,.p 52202 0),(10,.im (.slice (.slice (.int .i64))) _),(12,.sl 52203),(13,.int .i64 _),(15,.int .i64 _),(73,.int .i64 _),(74,.int .i64 _),(80,.int .i64 _),(81,.int .i64 _),(87,.im (.slice (.int .i64)) _),(88,.int .i64 _),(89,.int .i64 _)]) (L':=[(52200,some (.cells [.int .i64 _,.int .i64 _,.int .i64 _,.int .i64 _,.int .i64 _,.int .i64 _,.int .i64 _,.int .i64 _,.int .i64 _,.int .i64 _])),(52201,some (.cells [.nils,.nils,.nils])),(52202,some (.cells [.im (.slice (.int .i64)) _,.im (.slice (.slice (.int .i64))) _,.sl 52204])),(52203,some (.rr true (.int .i64) _ none)),(52204,some (.rows (.slice (.slice (.int .i64))) _))]) [] ⟨rfl,rfl,rfl,rfl,rfl,rfl,rfl,rfl,rfl,rfl,rfl,rfl,rfl,rfl,rfl,rfl,tv⟩ ⟨rfl,rfl,rfl,rfl,rfl,tv⟩ rfl ?_
             refine zd [[],[],[],[],[3,2],[4,3,2],[],[],[7,6],[8,7,6,5,4,3,2],[9,8,7,6,5,4,3,2,1,0],[10,9,8,7,6,5,4,3,2,1,0]] [[],[],[],[],[],[1098,52203],[],[],[],[1098,1102],[],[1102,52203]] [[],[],[],[],[],[1098],[],[],[],[1102],[],[]] [[1098,1102,52203],[1098,1102,52203],[],[],[],[],[1098,52203],[1098,52203],[1098,52203],[],[],[]] (by kernel_rfl) (by kernel_rfl) ?_
             refine zj 1 rfl rfl rfl tv ?_
             refine zj 2 rfl rfl rfl tv ?_
             refine zj 3 rfl rfl rfl tv ?_
             refine zj 4 rfl rfl rfl tv ?_
             obtain ⟨g,h3⟩:=gd_t h3
             refine zj 5 rfl rfl rfl ⟨tv,tv,g.1,g.2⟩ ?_
             obtain ⟨g,h3⟩:=gd_t h3
             refine zj 6 rfl rfl rfl ⟨tv,g⟩ ?_
             refine zj 7 rfl rfl rfl tv ?_
             refine zj 8 rfl rfl rfl tv ?_
             obtain ⟨r1035,hr,h3⟩:=bnd h3
             refine AJR_call 9 rfl (Nat.le_of_ble_eq_true rfl) [] rfl (subband_take.ok0 hr) subband_take.fnb rfl ⟨tv,⟨tv,⟨tv,⟨tv,tv⟩⟩⟩⟩ rfl tv rfl ?_
             obtain ⟨g,h3⟩:=gd_t h3
             refine zj 10 rfl rfl rfl ⟨⟨tv,tv,tv⟩,g⟩ ?_
             obtain ⟨g,h3⟩:=gd_t h3
             refine zj 11 rfl rfl rfl ⟨tv,tv,g.1,g.2⟩ ?_
             obtain ⟨g,h3⟩:=gd_t h3
             refine zj 12 rfl rfl rfl ⟨tv,tv,g,rfl⟩ ?_
             refine AJR_end rfl rfl rfl ?_
             refine tbn ?_
             refine zt ?_
             refine zv 2 rfl ⟨⟨tv,tv,tv⟩,tv,tv⟩ ?_
             refine zm ?_
             exact TE_nextr [(52200,52200),(52201,52201),(52202,52202),(52203,52203),(52204,52204)] n (zs n) (_,_) h3 ⟨rfl,rfl,rfl,rfl,rfl,rfl,rfl,rfl,rfl,rfl,rfl,rfl,rfl,rfl,rfl,tv⟩ ⟨rfl,rfl,rfl,rfl,rfl,tv⟩ rfl
            ·replace h3:=bif_f h3 hb
             refine TC_exit ?_
             refine tsx ?_
             refine tsx ?_
             refine tbe ?_
             obtain rfl:=sinj h3
             refine tsn ?_
             exact SP_ren [(52000,52200),(52001,52201),(52002,52202),(52003,52203),(52004,52204)] _ rfl ⟨rfl,rfl,rfl,rfl,rfl,rfl,rfl,rfl,rfl,rfl,rfl,tv⟩ ⟨rfl,rfl,rfl,rfl,rfl,tv⟩ rfl
           ·rintro x1021 hz
            obtain rfl:=hz.symm
            refine tbn ?_
            refine zt ?_
            refine zv 2 rfl ⟨⟨tv,tv,tv⟩,tv,tv⟩ ?_
            refine zm ?_
            exact TE_nextr [(50300,52000),(50301,52001),(50302,52002),(50303,52003),(50304,52004)] n (zs n) (_,_) h2 ⟨rfl,rfl,rfl,rfl,rfl,rfl,rfl,rfl,rfl,rfl,rfl,tv⟩ ⟨rfl,rfl,rfl,rfl,rfl,tv⟩ rfl
          ·replace h2:=bif_f h2 hb
           refine TC_exit ?_
           refine tsx ?_
           refine tsx ?_
           refine tbe ?_
           obtain rfl:=sinj h2
           refine tsn ?_
           exact SP_ren [(49300,50300),(49301,50301),(49302,50302),(49303,50303),(49304,50304)] _ rfl ⟨rfl,rfl,rfl,rfl,rfl,rfl,rfl,rfl,rfl,tv⟩ ⟨rfl,rfl,rfl,rfl,rfl,tv⟩ rfl
         ·rintro x958 hz
          obtain rfl:=hz.symm
          refine zt ?_
          refine zv 3 rfl ⟨tv,⟨tv,tv⟩,tv,tv⟩ ?_
          refine TL_frr 49303 rfl ?_
          obtain ⟨g,h1⟩:=gd_t h1
          refine zv 4 rfl ⟨⟨tv,tv⟩,⟨⟨tv,tv,tv⟩,g⟩,tv,⟨tv,tv⟩,tv⟩ ?_
          refine TL_end ?_
          refine tbn ?_
          refine zt ?_
          refine zv 2 rfl ⟨⟨tv,tv,tv⟩,tv,tv⟩ ?_
          refine zm ?_
          exact TE_nextr [(41200,49300),(41201,49301),(41202,49302),(41203,1110)] n (zs n) (_,_) h1 ⟨rfl,rfl,rfl,rfl,rfl,rfl,rfl,rfl,tv⟩ ⟨rfl,rfl,rfl,rfl,tv⟩ rfl
        ·replace h1:=bif_f h1 hb
         refine TC_exit ?_
         refine tsx ?_
         refine tsx ?_
         refine tbe ?_
         obtain rfl:=sinj h1
         refine tsn ?_
         exact SP_ren [(36900,41200),(36901,41201),(36902,41202),(36903,41203)] _ rfl ⟨rfl,rfl,rfl,rfl,tv⟩ ⟨rfl,rfl,rfl,rfl,tv⟩ rfl
       ·rintro x700 hz
        obtain rfl:=hz.symm
        refine zg ?_
        refine zv 2 rfl ⟨⟨tv,tv⟩,⟨tv,tv⟩,tv⟩ ?_
        refine TL_frz 36903 rfl ?_
        obtain ⟨⟨r701,r702⟩,hr,h0⟩:=bnd h0
        refine TL_callB [] (subband_Pack.ok0 hr) subband_Pack.fnb rfl ⟨tv,⟨tv,⟨tv,tv⟩⟩⟩ rfl tv rfl ?_
        refine zv 5 rfl ⟨tv,tv,tv,tv,tv,tv⟩ ?_
        refine ze ?_
        refine TC_seq ?_
        refine TC_seq ?_
        obtain ⟨z1,h1,h0⟩:=bnd h0
        refine TC_cut (α:=Bool) (fun s=>z1 = s) (fun s=>[(4,.p 37000 0),(9,.p 37001 0),(126,.bool s)]) (fun s=>[(37000,some (.cells [.nils,.nils,.nils])),(37001,some (.cells [.im (.slice (.int .i64)) x520,.im (.slice (.slice (.int .i64))) x529,.im (.slice (.slice (.slice (.int .i64)))) x700]))]) ?_ ?_
        ·refine TC_reg ?_
         refine zv 3 rfl ⟨tv,⟨tv,tv,tv⟩,tv,tv⟩ ?_
         refine TL_split 121 rfl (fun hb=>?_) (fun hb=>?_)
         ·replace h1:=bif_t h1 hb
          refine TL_gf (.bool false) rfl rfl rfl rfl rfl (by decide) ?_
          refine TL_gf (.bool false) rfl rfl rfl rfl rfl (by decide) ?_
          refine TL_gf (.bool false) rfl rfl rfl rfl rfl (by decide) ?_
          refine TL_gf (.bool false) rfl rfl rfl rfl rfl (by decide) ?_
          refine zv 1 rfl ⟨⟨tv,tv,fun e=>e⟩,tv⟩ ?_
          refine TL_end ?_
          obtain rfl:=sinj h1
          refine tsn ?_
          exact SP_ren [(37000,36901),(37001,36902)] _ rfl ⟨rfl,rfl,rfl,tv⟩ ⟨rfl,rfl,tv⟩ rfl
         ·replace h1:=bif_f h1 hb
          refine TL_gt rfl rfl rfl rfl ?_
          refine zv 1 rfl ⟨tv,tv⟩ ?_
          refine TL_gt rfl rfl rfl rfl ?_
          refine zv 1 rfl ⟨tv,tv⟩ ?_
          refine TL_gt rfl rfl rfl rfl ?_
          obtain ⟨r705,hr,h1⟩:=bnd h1
          refine TL_callB [] (slices_Equal_byte_byte.ok0 hr) slices_Equal_byte_byte.fnb rfl ⟨tv,⟨tv,⟨tv,tv⟩⟩⟩ rfl tv rfl ?_
          refine TL_gt rfl rfl rfl rfl ?_
          refine zv 2 rfl ⟨tv,⟨tv,tv,tv⟩,tv⟩ ?_
          refine TL_end ?_
          obtain rfl:=sinj h1
          refine tsn ?_
          exact SP_ren [(37000,36901),(37001,36902)] _ rfl ⟨rfl,rfl,rfl,tv⟩ ⟨rfl,rfl,tv⟩ rfl
        ·rintro x704 hz
         obtain rfl:=hz.symm
         refine TE_go ?_
         refine TC_cond rfl (fun hb=>?_) (fun hb=>?_)
         ·replace h0:=bif_t h0 hb
          refine zr ?_
          refine zv 3 rfl ⟨tv,⟨tv,tv⟩,tv,tv⟩ ?_
          refine ze ?_
          refine TC_ret ?_
          refine tsr ?_
          refine TE_imnC 37000 0 (.int .i64) rfl rfl ?_
          refine TE_imnC 37000 1 (.slice (.int .i64)) rfl rfl ?_
          refine TE_imnC 37000 2 (.slice (.slice (.int .i64))) rfl rfl ?_
          obtain rfl:=sinj h0
          exact TE_ret env rfl ⟨tv,tv⟩ tv
         ·replace h0:=bif_f h0 hb
          refine TC_skip ?_
          refine zg ?_
          refine zv 3 rfl ⟨⟨tv,tv⟩,⟨tv,tv⟩,tv,tv⟩ ?_
          refine ze ?_
          refine TC_ret ?_
          obtain rfl:=sinj h0
          exact TE_ret env rfl ⟨tv,tv⟩ tv
   ·refine TL_callB [(1000,500310)] (bits_Open.ok1 hr) bits_Open.fnb rfl ⟨tv,⟨tv,tv⟩⟩ rfl tv rfl ?_
    refine zv 5 rfl ⟨tv,tv,tv,tv,tv,tv⟩ ?_
    refine zn ?_
    refine zv 1 rfl ⟨tv,tv⟩ ?_
    obtain ⟨⟨r1053,r1054,r1055⟩,hr,h0⟩:=bnd h0
    refine TL_callB [(0,500310)] (bits_Eye_Front_2.ok0 hr) bits_Eye_Front_2.fnb rfl ⟨tv,⟨tv,⟨tv,tv⟩⟩⟩ rfl ⟨.inr rfl,tv⟩ rfl ?_
    refine zn ?_
    obtain ⟨g,h0⟩:=gd_t h0
    refine zv 6 rfl ⟨tv,⟨tv,tv⟩,⟨tv,tv,g.1,g.2.1,g.2.2⟩,⟨tv,tv⟩,tv,⟨tv,tv⟩,tv⟩ ?_
    refine ze ?_
    refine TC_seq ?_
    refine zr ?_
    refine zv 3 rfl ⟨tv,⟨tv,tv⟩,⟨tv,tv,tv⟩,tv⟩ ?_
    refine ze ?_
    obtain ⟨z1,h1,h0⟩:=bnd h0
    refine TC_cut (α:=Int × (List Int)) (fun s=>z1 = s) (fun s=>[(1,.im (.slice (.int .u8)) p10),(2,.p 52700 0),(4,.p 52701 0),(7,.p 52702 0),(9,.p 52703 0)]) (fun s=>[(52700,some (.cells [.int .i64 p0,.int .i64 p1,.int .i64 p2,.int .i64 p3,.int .i64 p4,.int .i64 p5,.int .i64 p6,.int .i64 p7,.int .i64 p8,.int .i64 p9])),(52701,some (.cells [.nils,.nils,.nils])),(52702,some (.cells [.int .i64 s.1,.int .i64 0,.im (.slice (.int .u8)) r517])),(52703,some (.cells [.im (.slice (.int .i64)) s.2,.nils,.nils]))]) ?_ ?_
    ·refine TC_cond rfl (fun hb=>?_) (fun hb=>?_)
     ·replace h1:=bif_t h1 hb
      refine TC_reg ?_
      refine zv 3 rfl ⟨tv,tv,⟨tv,tv⟩,tv⟩ ?_
      obtain ⟨⟨r1973,r1974⟩,hr,h1⟩:=bnd h1
      refine TL_callB [(0,500310)] (subband_take_2.ok0 hr) subband_take_2.fnb rfl ⟨tv,⟨tv,⟨tv,⟨tv,tv⟩⟩⟩⟩ rfl ⟨.inr rfl,tv⟩ rfl ?_
      refine zv 2 rfl ⟨tv,⟨tv,tv⟩,tv⟩ ?_
      refine TL_end ?_
      obtain rfl:=sinj h1
      refine tsn ?_
      exact SP_ren [(52700,1002),(52701,1004),(52702,500310),(52703,1009)] (_,_) rfl ⟨rfl,rfl,rfl,rfl,rfl,tv⟩ ⟨rfl,rfl,rfl,rfl,tv⟩ rfl
     ·replace h1:=bif_f h1 hb
      refine TC_skip ?_
      obtain rfl:=sinj h1
      refine tsn ?_
      refine TE_frz 1038 rfl ?_
      exact SP_ren [(52700,1002),(52701,1004),(52702,500310),(52703,1009)] (_,_) rfl ⟨rfl,rfl,rfl,rfl,rfl,tv⟩ ⟨rfl,rfl,rfl,rfl,tv⟩ rfl
    ·rintro ⟨x1059,x1060⟩ rfl
     refine TE_go ?_
     refine TC_seq ?_
     refine zr ?_
     refine zv 3 rfl ⟨tv,⟨tv,tv⟩,tv,tv⟩ ?_
     refine ze ?_
     obtain ⟨z1,h1,h0⟩:=bnd h0
     refine TC_cut (α:=Int × (List (List Int))) (fun s=>z1 = s) (fun s=>[(1,.im (.slice (.int .u8)) p10),(2,.p 53100 0),(4,.p 53101 0),(7,.p 53102 0),(9,.p 53103 0)]) (fun s=>[(53100,some (.cells [.int .i64 p0,.int .i64 p1,.int .i64 p2,.int .i64 p3,.int .i64 p4,.int .i64 p5,.int .i64 p6,.int .i64 p7,.int .i64 p8,.int .i64 p9])),(53101,some (.cells [.nils,.nils,.nils])),(53102,some (.cells [.int .i64 s.1,.int .i64 0,.im (.slice (.int .u8)) r517])),(53103,some (.cells [.im (.slice (.int .i64)) x1060,.sl 53104,.nils])),(53104,some (.rows (.slice (.int .i64)) s.2))]) ?_ ?_
     ·refine TC_blk ?_
      refine TC_loop (α:=Int × Int × (List (List Int))) (fun n s=>subband_Parse.l7 K p10 p2 p0 p1 p3 p4 p5 p6 p7 p8 p9 r517 x1060 n s.1 s.2.1 s.2.2 = some z1) (fun s=>[(1,.im (.slice (.int .u8)) p10),(2,.p 77100 0),(4,.p 77101 0),(7,.p 77102 0),(9,.p 77103 0),(49,.int .i64 p2),(50,.int .i64 s.1)]) (fun s=>[(77100,some (.cells [.int .i64 p0,.int .i64 p1,.int .i64 p2,.int .i64 p3,.int .i64 p4,.int .i64 p5,.int .i64 p6,.int .i64 p7,.int .i64 p8,.int .i64 p9])),(77101,some (.cells [.nils,.nils,.nils])),(77102,some (.cells [.int .i64 s.2.1,.int .i64 0,.im (.slice (.int .u8)) r517])),(77103,some (.cells [.im (.slice (.int .i64)) x1060,.sl 77104,.nils])),(77104,some (.rows (.slice (.int .i64)) s.2.2))]) K ?_ ?_
      ·refine TE_ownC 52703 1 954061 (.slice (.int .i64)) rfl rfl (by decide) rfl rfl ?_
       exact SP_ren [(77100,52700),(77101,52701),(77102,52702),(77103,52703),(77104,954061)] (_,_,_) h1 ⟨rfl,rfl,rfl,rfl,rfl,rfl,rfl,tv⟩ ⟨rfl,rfl,rfl,rfl,rfl,tv⟩ rfl
      rintro n ⟨x1956,x1957,x1958⟩ h1
      rcases n with _ | n
      ·exact (nsome h1).elim
      replace h1 : subband_Parse.r7 K p10 p2 p0 p1 p3 p4 p5 p6 p7 p8 p9 r517 x1060 (subband_Parse.l7 K p10 p2 p0 p1 p3 p4 p5 p6 p7 p8 p9 r517 x1060 n) x1956 x1957 x1958 = some z1:=h1
      refine zr ?_
      refine zv 1 rfl ⟨⟨tv,tv,tv⟩,tv⟩ ?_
      refine ze ?_
      refine TC_seq ?_
      refine TC_cond rfl (fun hb=>?_) (fun hb=>?_)
      ·replace h1:=bif_t h1 hb
       refine TC_skip ?_
       refine TE_go ?_
       refine TC_seq ?_
       refine TC_blk ?_
       refine TC_renw (A':=[(1,.im (.slice (.int .u8)) _),(2,.p 77100 0),(4,.p 77101 0),(7,.p 77102 0),(9,.p 77103 0),(49,.int .i64 _),(50,.int .i64 _)]) (L':=[(77100,some (.cells [.int .i64 _,.int .i64 _,.int .i64 _,.int .i64 _,.int .i64 _,.int .i64 _,.int .i64 _,.int .i64 _,.int .i64 _,.int .i64 _])),(77101,some (.cells [.nils,.nils,.nils])),(77102,some (.cells [.int .i64 _,.int .i64 0,.im (.slice (.int .u8)) _])),(77103,some (.cells [.im (.slice (.int .i64)) _,.sl 77104,.nils])),(77104,some (.rows (.slice (.int .i64)) _))]) [] ⟨rfl,rfl,rfl,rfl,rfl,rfl,rfl,tv⟩ ⟨rfl,rfl,rfl,rfl,rfl,tv⟩ rfl ?_
       refine zd [[],[0],[],[],[3],[4,3,2],[5,4,3,2],[6,5,4,3,2,1,0],[7,6,5,4,3,2,1,0],[8,7,6,5,4,3,2,1,0]] [[],[],[],[],[],[77102],[1058],[1059,77104],[],[77103]] [[],[],[],[],[],[],[1058],[1059],[],[]] [[1058,77102],[1058,77102],[],[],[],[],[],[],[],[]] (by kernel_rfl) (by kernel_rfl) ?_
       refine zj 1 rfl rfl rfl tv ?_
       refine zj 2 rfl rfl rfl ⟨tv,tv⟩ ?_
       refine zj 3 rfl rfl rfl tv ?_
       refine zj 4 rfl rfl rfl tv ?_
       refine zj 5 rfl rfl rfl ⟨tv,tv⟩ ?_
       obtain ⟨⟨r1969,r1970⟩,hr,h1⟩:=bnd h1
       refine AJR_call 6 rfl (Nat.le_of_ble_eq_true rfl) [(0,77102)] rfl (subband_take_2.ok0 hr) subband_take_2.fnb rfl ⟨tv,⟨tv,⟨tv,⟨tv,tv⟩⟩⟩⟩ rfl ⟨.inr rfl,tv⟩ rfl ?_
       refine zj 7 rfl rfl rfl ⟨tv,tv⟩ ?_
       obtain ⟨g,h1⟩:=gd_t h1
       refine zj 8 rfl rfl rfl ⟨⟨tv,tv,tv⟩,g⟩ ?_
       refine zj 9 rfl rfl rfl tv ?_
       refine zj 10 rfl rfl rfl ⟨tv,tv⟩ ?_
       refine AJR_end rfl rfl rfl ?_
       refine tbn ?_
       refine zt ?_
       refine zv 2 rfl ⟨⟨tv,tv,tv⟩,tv,tv⟩ ?_
       refine zm ?_
       exact TE_nextr [(77100,77100),(77101,77101),(77102,77102),(77103,77103),(77104,1059)] n (zs n) (_,_,_) h1 ⟨rfl,rfl,rfl,rfl,rfl,rfl,rfl,tv⟩ ⟨rfl,rfl,rfl,rfl,rfl,tv⟩ rfl
      ·replace h1:=bif_f h1 hb
       refine TC_exit ?_
       refine tsx ?_
       refine tsx ?_
       refine tbe ?_
       obtain rfl:=sinj h1
       refine tsn ?_
       exact SP_ren [(53100,77100),(53101,77101),(53102,77102),(53103,77103),(53104,77104)] (_,_) rfl ⟨rfl,rfl,rfl,rfl,rfl,tv⟩ ⟨rfl,rfl,rfl,rfl,rfl,tv⟩ rfl
     ·rintro ⟨x1075,x1076⟩ rfl
      refine zg ?_
      refine zv 3 rfl ⟨⟨tv,tv⟩,tv,⟨tv,tv⟩,tv⟩ ?_
      refine TL_frz 53104 rfl ?_
      obtain ⟨⟨r1077,r1078⟩,hr,h0⟩:=bnd h0
      refine TL_callB [] (alloc_Share.ok0 hr) alloc_Share.fnb rfl ⟨tv,⟨tv,⟨tv,tv⟩⟩⟩ rfl tv rfl ?_
      refine zv 5 rfl ⟨tv,tv,tv,tv,tv,tv⟩ ?_
      refine ze ?_
      refine TC_seq ?_
      refine zr ?_
      refine zv 2 rfl ⟨tv,⟨tv,tv,tv⟩,tv⟩ ?_
      refine ze ?_
      refine TC_cond rfl (fun hb=>?_) (fun hb=>?_)
      ·replace h0:=bif_t h0 hb
       refine zr ?_
       refine zv 3 rfl ⟨tv,⟨tv,tv⟩,tv,tv⟩ ?_
       refine ze ?_
       refine TC_ret ?_
       refine tsr ?_
       refine TE_imnC 53101 0 (.int .i64) rfl rfl ?_
       refine TE_imnC 53101 1 (.slice (.int .i64)) rfl rfl ?_
       refine TE_imnC 53101 2 (.slice (.slice (.int .i64))) rfl rfl ?_
       obtain rfl:=sinj h0
       exact TE_ret env rfl ⟨tv,tv⟩ tv
      ·replace h0:=bif_f h0 hb
       refine TC_skip ?_
       refine TE_go ?_
       refine TC_seq ?_
       refine zr ?_
       refine zv 3 rfl ⟨tv,⟨tv,tv⟩,tv,tv⟩ ?_
       refine ze ?_
       obtain ⟨z1,h1,h0⟩:=bnd h0
       refine TC_cut (α:=(List (List (List Int)))) (fun s=>z1 = s) (fun s=>[(1,.im (.slice (.int .u8)) p10),(2,.p 61500 0),(4,.p 61501 0),(9,.p 61502 0)]) (fun s=>[(61500,some (.cells [.int .i64 p0,.int .i64 p1,.int .i64 p2,.int .i64 p3,.int .i64 p4,.int .i64 p5,.int .i64 p6,.int .i64 p7,.int .i64 p8,.int .i64 p9])),(61501,some (.cells [.nils,.nils,.nils])),(61502,some (.cells [.im (.slice (.int .i64)) x1060,.im (.slice (.slice (.int .i64))) x1076,.sl 61503])),(61503,some (.rows (.slice (.slice (.int .i64))) s))]) ?_ ?_
       ·refine TC_blk ?_
        refine TC_loop (α:=Int × Int × (List (List (List Int)))) (fun n s=>subband_Parse.l4 K p10 r1077 p4 p0 p1 p2 p3 p5 p6 p7 p8 p9 r517 x1060 x1076 n s.1 s.2.1 s.2.2 = some z1) (fun s=>[(1,.im (.slice (.int .u8)) p10),(2,.p 65800 0),(4,.p 65801 0),(7,.p 65802 0),(9,.p 65803 0),(10,.im (.slice (.slice (.int .i64))) r1077),(73,.int .i64 p4),(74,.int .i64 s.1)]) (fun s=>[(65800,some (.cells [.int .i64 p0,.int .i64 p1,.int .i64 p2,.int .i64 p3,.int .i64 p4,.int .i64 p5,.int .i64 p6,.int .i64 p7,.int .i64 p8,.int .i64 p9])),(65801,some (.cells [.nils,.nils,.nils])),(65802,some (.cells [.int .i64 s.2.1,.int .i64 0,.im (.slice (.int .u8)) r517])),(65803,some (.cells [.im (.slice (.int .i64)) x1060,.im (.slice (.slice (.int .i64))) x1076,.sl 65804])),(65804,some (.rows (.slice (.slice (.int .i64))) s.2.2))]) K ?_ ?_
        ·refine TE_ownC 53103 2 962062 (.slice (.slice (.int .i64))) rfl rfl (by decide) rfl rfl ?_
         exact SP_ren [(65800,53100),(65801,53101),(65802,53102),(65803,53103),(65804,962062)] (_,_,_) h1 ⟨rfl,rfl,rfl,rfl,rfl,rfl,rfl,rfl,tv⟩ ⟨rfl,rfl,rfl,rfl,rfl,tv⟩ rfl
        rintro n ⟨x1523,x1524,x1525⟩ h1
        rcases n with _ | n
        ·exact (nsome h1).elim
        replace h1 : subband_Parse.r4 K p10 r1077 p4 p0 p1 p2 p3 p5 p6 p7 p8 p9 r517 x1060 x1076 (subband_Parse.l4 K p10 r1077 p4 p0 p1 p2 p3 p5 p6 p7 p8 p9 r517 x1060 x1076 n) x1523 x1524 x1525 = some z1:=h1
        refine zr ?_
        refine zv 1 rfl ⟨⟨tv,tv,tv⟩,tv⟩ ?_
        refine ze ?_
        refine TC_seq ?_
        refine TC_cond rfl (fun hb=>?_) (fun hb=>?_)
        ·replace h1:=bif_t h1 hb
         refine TC_skip ?_
         refine TE_go ?_
         refine TC_seq ?_
         refine TC_blk ?_
         refine zr ?_
         obtain ⟨g,h1⟩:=gd_t h1
         refine zv 4 rfl ⟨tv,⟨tv,tv⟩,⟨tv,tv,g.1,g.2.1,g.2.2⟩,tv,tv⟩ ?_
         refine ze ?_
         refine TC_seq ?_
         refine zr ?_
         refine zv 3 rfl ⟨tv,⟨tv,tv⟩,tv,tv⟩ ?_
         refine ze ?_
         obtain ⟨z2,h2,h1⟩:=bnd h1
         refine TC_cut (α:=Int × (List (List Int))) (fun s=>z2 = s) (fun s=>[(1,.im (.slice (.int .u8)) p10),(2,.p 73900 0),(4,.p 73901 0),(7,.p 73902 0),(9,.p 73903 0),(10,.im (.slice (.slice (.int .i64))) r1077),(12,.sl 73904),(73,.int .i64 p4),(74,.int .i64 x1523)]) (fun s=>[(73900,some (.cells [.int .i64 p0,.int .i64 p1,.int .i64 p2,.int .i64 p3,.int .i64 p4,.int .i64 p5,.int .i64 p6,.int .i64 p7,.int .i64 p8,.int .i64 p9])),(73901,some (.cells [.nils,.nils,.nils])),(73902,some (.cells [.int .i64 s.1,.int .i64 0,.im (.slice (.int .u8)) r517])),(73903,some (.cells [.im (.slice (.int .i64)) x1060,.im (.slice (.slice (.int .i64))) x1076,.sl 73905])),(73904,some (.rr true (.int .i64) s.2 none)),(73905,some (.rows (.slice (.slice (.int .i64))) x1525))]) ?_ ?_
         ·refine TC_blk ?_
          refine TC_loop (α:=Int × Int × (List (List Int))) (fun n s=>subband_Parse.l5 K p10 r1077 p4 x1523 ((List.replicate (Int.toNat p2) ([] : List Int)).length : Int) p0 p1 p2 p3 p5 p6 p7 p8 p9 r517 x1060 x1076 x1525 n s.1 s.2.1 s.2.2 = some z2) (fun s=>[(1,.im (.slice (.int .u8)) p10),(2,.p 74900 0),(4,.p 74901 0),(7,.p 74902 0),(9,.p 74903 0),(10,.im (.slice (.slice (.int .i64))) r1077),(12,.sl 74904),(73,.int .i64 p4),(74,.int .i64 x1523),(80,.int .i64 ((List.replicate (Int.toNat p2) ([] : List Int)).length : Int)),(81,.int .i64 s.1)]) (fun s=>[(74900,some (.cells [.int .i64 p0,.int .i64 p1,.int .i64 p2,.int .i64 p3,.int .i64 p4,.int .i64 p5,.int .i64 p6,.int .i64 p7,.int .i64 p8,.int .i64 p9])),(74901,some (.cells [.nils,.nils,.nils])),(74902,some (.cells [.int .i64 s.2.1,.int .i64 0,.im (.slice (.int .u8)) r517])),(74903,some (.cells [.im (.slice (.int .i64)) x1060,.im (.slice (.slice (.int .i64))) x1076,.sl 74905])),(74904,some (.rr true (.int .i64) s.2.2 none)),(74905,some (.rows (.slice (.slice (.int .i64))) x1525))]) K ?_ ?_
          ·exact SP_ren [(74900,65800),(74901,65801),(74902,65802),(74903,65803),(74904,1078),(74905,65804)] (_,_,_) h2 ⟨rfl,rfl,rfl,rfl,rfl,rfl,rfl,rfl,rfl,rfl,rfl,tv⟩ ⟨rfl,rfl,rfl,rfl,rfl,rfl,tv⟩ rfl
          rintro n ⟨x1854,x1855,x1856⟩ h2
          rcases n with _ | n
          ·exact (nsome h2).elim
          replace h2 : subband_Parse.r5 K p10 r1077 p4 x1523 ((List.replicate (Int.toNat p2) ([] : List Int)).length : Int) p0 p1 p2 p3 p5 p6 p7 p8 p9 r517 x1060 x1076 x1525 (subband_Parse.l5 K p10 r1077 p4 x1523 ((List.replicate (Int.toNat p2) ([] : List Int)).length : Int) p0 p1 p2 p3 p5 p6 p7 p8 p9 r517 x1060 x1076 x1525 n) x1854 x1855 x1856 = some z2:=h2
          refine zr ?_
          refine zv 1 rfl ⟨⟨tv,tv,tv⟩,tv⟩ ?_
          refine ze ?_
          refine TC_seq ?_
          refine TC_cond rfl (fun hb=>?_) (fun hb=>?_)
          ·replace h2:=bif_t h2 hb
           refine TC_skip ?_
           refine TE_go ?_
           refine TC_seq ?_
           refine TC_blk ?_
           refine zr ?_
           refine zv 2 rfl ⟨tv,tv,tv⟩ ?_
           refine zn ?_
           obtain ⟨g,h2⟩:=gd_t h2
           refine zv 6 rfl ⟨tv,tv,⟨tv,tv,g.1,g.2⟩,⟨tv,tv⟩,⟨tv,tv⟩,tv,tv⟩ ?_
           refine ze ?_
           obtain ⟨z3,h3,h2⟩:=bnd h2
           refine TC_cut (α:=Int × (List (List Int))) (fun s=>z3 = s) (fun s=>[(1,.im (.slice (.int .u8)) p10),(2,.p 76600 0),(4,.p 76601 0),(7,.p 76602 0),(9,.p 76603 0),(10,.im (.slice (.slice (.int .i64))) r1077),(12,.sl 76604),(73,.int .i64 p4),(74,.int .i64 x1523),(80,.int .i64 ((List.replicate (Int.toNat p2) ([] : List Int)).length : Int)),(81,.int .i64 x1854)]) (fun s=>[(76600,some (.cells [.int .i64 p0,.int .i64 p1,.int .i64 p2,.int .i64 p3,.int .i64 p4,.int .i64 p5,.int .i64 p6,.int .i64 p7,.int .i64 p8,.int .i64 p9])),(76601,some (.cells [.nils,.nils,.nils])),(76602,some (.cells [.int .i64 s.1,.int .i64 0,.im (.slice (.int .u8)) r517])),(76603,some (.cells [.im (.slice (.int .i64)) x1060,.im (.slice (.slice (.int .i64))) x1076,.sl 76605])),(76604,some (.rr true (.int .i64) s.2 none)),(76605,some (.rows (.slice (.slice (.int .i64))) x1525))]) ?_ ?_
           ·refine TC_blk ?_
            refine TC_loop (α:=Int × Int × (List (List Int))) (fun n s=>subband_Parse.l6 K p10 r1077 x1854 p4 x1523 ((List.replicate (Int.toNat p2) ([] : List Int)).length : Int) (Kd.nth (.slice (.int .i64)) r1077 (Int.toNat x1854)) ((Kd.nth (.slice (.int .i64)) r1077 (Int.toNat x1854)).length : Int) p0 p1 p2 p3 p5 p6 p7 p8 p9 r517 x1060 x1076 x1525 n s.1 s.2.1 s.2.2 = some z3) (fun s=>[(1,.im (.slice (.int .u8)) p10),(2,.p 76800 0),(4,.p 76801 0),(7,.p 76802 0),(9,.p 76803 0),(10,.im (.slice (.slice (.int .i64))) r1077),(12,.sl 76804),(13,.int .i64 x1854),(73,.int .i64 p4),(74,.int .i64 x1523),(80,.int .i64 ((List.replicate (Int.toNat p2) ([] : List Int)).length : Int)),(81,.int .i64 x1854),(87,.im (.slice (.int .i64)) (Kd.nth (.slice (.int .i64)) r1077 (Int.toNat x1854))),(88,.int .i64 ((Kd.nth (.slice (.int .i64)) r1077 (Int.toNat x1854)).length : Int)),(89,.int .i64 s.1)]) (fun s=>[(76800,some (.cells [.int .i64 p0,.int .i64 p1,.int .i64 p2,.int .i64 p3,.int .i64 p4,.int .i64 p5,.int .i64 p6,.int .i64 p7,.int .i64 p8,.int .i64 p9])),(76801,some (.cells [.nils,.nils,.nils])),(76802,some (.cells [.int .i64 s.2.1,.int .i64 0,.im (.slice (.int .u8)) r517])),(76803,some (.cells [.im (.slice (.int .i64)) x1060,.im (.slice (.slice (.int .i64))) x1076,.sl 76805])),(76804,some (.rr true (.int .i64) s.2.2 none)),(76805,some (.rows (.slice (.slice (.int .i64))) x1525))]) K ?_ ?_
            ·exact SP_ren [(76800,74900),(76801,74901),(76802,74902),(76803,74903),(76804,74904),(76805,74905)] (_,_,_) h3 ⟨rfl,rfl,rfl,rfl,rfl,rfl,rfl,rfl,rfl,rfl,rfl,rfl,rfl,rfl,rfl,tv⟩ ⟨rfl,rfl,rfl,rfl,rfl,rfl,tv⟩ rfl
            rintro n ⟨x1932,x1933,x1934⟩ h3
            rcases n with _ | n
            ·exact (nsome h3).elim
            replace h3 : subband_Parse.r6 K p10 r1077 x1854 p4 x1523 ((List.replicate (Int.toNat p2) ([] : List Int)).length : Int) (Kd.nth (.slice (.int .i64)) r1077 (Int.toNat x1854)) ((Kd.nth (.slice (.int .i64)) r1077 (Int.toNat x1854)).length : Int) p0 p1 p2 p3 p5 p6 p7 p8 p9 r517 x1060 x1076 x1525 (subband_Parse.l6 K p10 r1077 x1854 p4 x1523 ((List.replicate (Int.toNat p2) ([] : List Int)).length : Int) (Kd.nth (.slice (.int .i64)) r1077 (Int.toNat x1854)) ((Kd.nth (.slice (.int .i64)) r1077 (Int.toNat x1854)).length : Int) p0 p1 p2 p3 p5 p6 p7 p8 p9 r517 x1060 x1076 x1525 n) x1932 x1933 x1934 = some z3:=h3
            refine zr ?_
            refine zv 1 rfl ⟨⟨tv,tv,tv⟩,tv⟩ ?_
            refine ze ?_
            refine TC_seq ?_
            refine TC_cond rfl (fun hb=>?_) (fun hb=>?_)
            ·replace h3:=bif_t h3 hb
             refine TC_skip ?_
             refine TE_go ?_
             refine TC_seq ?_
             refine TC_blk ?_
             refine zr ?_
             obtain ⟨g,h3⟩:=gd_t h3
             refine zv 3 rfl ⟨⟨tv,tv,g.1,g.2⟩,⟨tv,tv⟩,tv,tv⟩ ?_
             refine ze ?_
             refine TC_renw (A':=[(1,.im (.slice (.int .u8)) _),(2,.p 76800 0),(4,.p 76801 0),(7,.p 76802 0),(9,.p 76803 0),(10,.im (.slice (.slice (.int .i64))) _),(12,.sl 76804),(13,.int .i64 _),(15,.int .i64 _),(73,.int .i64 _),(74,.int .i64 _),(80,.int .i64 _),(81,.int .i64 _),(87,.im (.slice (.int .i64)) _),(88,.int .i64 _),(89,.int .i64 _)]) (L':=[(76800,some (.cells [.int .i64 _,.int .i64 _,.int .i64 _,.int .i64 _,.int .i64 _,.int .i64 _,.int .i64 _,.int .i64 _,.int .i64 _,.int .i64 _])),(76801,some (.cells [.nils,.nils,.nils])),(76802,some (.cells [.int .i64 _,.int .i64 0,.im (.slice (.int .u8)) _])),(76803,some (.cells [.im (.slice (.int .i64)) _,.im (.slice (.slice (.int .i64))) _,.sl 76805])),(76804,some (.rr true (.int .i64) _ none)),(76805,some (.rows (.slice (.slice (.int .i64))) _))]) [] ⟨rfl,rfl,rfl,rfl,rfl,rfl,rfl,rfl,rfl,rfl,rfl,rfl,rfl,rfl,rfl,rfl,tv⟩ ⟨rfl,rfl,rfl,rfl,rfl,rfl,tv⟩ rfl ?_
             refine zd [[],[],[],[],[3,2],[4,3,2],[],[],[7,6],[8,7,6,5,4,3,2],[9,8,7,6,5,4,3,2,1,0],[10,9,8,7,6,5,4,3,2,1,0]] [[],[],[],[],[],[1098,76804],[],[],[76802],[1098,1102],[],[1102,76804]] [[],[],[],[],[],[1098],[],[],[],[1102],[],[]] [[1098,1102,76802,76804],[1098,1102,76802,76804],[76802],[76802],[76802],[76802],[1098,76804],[1098,76804],[1098,76804],[],[],[]] (by kernel_rfl) (by kernel_rfl) ?_
             refine zj 1 rfl rfl rfl tv ?_
             refine zj 2 rfl rfl rfl tv ?_
             refine zj 3 rfl rfl rfl tv ?_
             refine zj 4 rfl rfl rfl tv ?_
             obtain ⟨g,h3⟩:=gd_t h3
             refine zj 5 rfl rfl rfl ⟨tv,tv,g.1,g.2⟩ ?_
             obtain ⟨g,h3⟩:=gd_t h3
             refine zj 6 rfl rfl rfl ⟨tv,g⟩ ?_
             refine zj 7 rfl rfl rfl tv ?_
             refine zj 8 rfl rfl rfl tv ?_
             obtain ⟨⟨r1947,r1948⟩,hr,h3⟩:=bnd h3
             refine AJR_call 9 rfl (Nat.le_of_ble_eq_true rfl) [(0,76802)] rfl (subband_take_2.ok0 hr) subband_take_2.fnb rfl ⟨tv,⟨tv,⟨tv,⟨tv,tv⟩⟩⟩⟩ rfl ⟨.inr rfl,tv⟩ rfl ?_
             obtain ⟨g,h3⟩:=gd_t h3
             refine zj 10 rfl rfl rfl ⟨⟨tv,tv,tv⟩,g⟩ ?_
             obtain ⟨g,h3⟩:=gd_t h3
             refine zj 11 rfl rfl rfl ⟨tv,tv,g.1,g.2⟩ ?_
             obtain ⟨g,h3⟩:=gd_t h3
             refine zj 12 rfl rfl rfl ⟨tv,tv,g,rfl⟩ ?_
             refine AJR_end rfl rfl rfl ?_
             refine tbn ?_
             refine zt ?_
             refine zv 2 rfl ⟨⟨tv,tv,tv⟩,tv,tv⟩ ?_
             refine zm ?_
             exact TE_nextr [(76800,76800),(76801,76801),(76802,76802),(76803,76803),(76804,76804),(76805,76805)] n (zs n) (_,_,_) h3 ⟨rfl,rfl,rfl,rfl,rfl,rfl,rfl,rfl,rfl,rfl,rfl,rfl,rfl,rfl,rfl,tv⟩ ⟨rfl,rfl,rfl,rfl,rfl,rfl,tv⟩ rfl
            ·replace h3:=bif_f h3 hb
             refine TC_exit ?_
             refine tsx ?_
             refine tsx ?_
             refine tbe ?_
             obtain rfl:=sinj h3
             refine tsn ?_
             exact SP_ren [(76600,76800),(76601,76801),(76602,76802),(76603,76803),(76604,76804),(76605,76805)] (_,_) rfl ⟨rfl,rfl,rfl,rfl,rfl,rfl,rfl,rfl,rfl,rfl,rfl,tv⟩ ⟨rfl,rfl,rfl,rfl,rfl,rfl,tv⟩ rfl
           ·rintro ⟨x1925,x1926⟩ rfl
            refine tbn ?_
            refine zt ?_
            refine zv 2 rfl ⟨⟨tv,tv,tv⟩,tv,tv⟩ ?_
            refine zm ?_
            exact TE_nextr [(74900,76600),(74901,76601),(74902,76602),(74903,76603),(74904,76604),(74905,76605)] n (zs n) (_,_,_) h2 ⟨rfl,rfl,rfl,rfl,rfl,rfl,rfl,rfl,rfl,rfl,rfl,tv⟩ ⟨rfl,rfl,rfl,rfl,rfl,rfl,tv⟩ rfl
          ·replace h2:=bif_f h2 hb
           refine TC_exit ?_
           refine tsx ?_
           refine tsx ?_
           refine tbe ?_
           obtain rfl:=sinj h2
           refine tsn ?_
           exact SP_ren [(73900,74900),(73901,74901),(73902,74902),(73903,74903),(73904,74904),(73905,74905)] (_,_) rfl ⟨rfl,rfl,rfl,rfl,rfl,rfl,rfl,rfl,rfl,tv⟩ ⟨rfl,rfl,rfl,rfl,rfl,rfl,tv⟩ rfl
         ·rintro ⟨x1818,x1819⟩ rfl
          refine zt ?_
          refine zv 3 rfl ⟨tv,⟨tv,tv⟩,tv,tv⟩ ?_
          refine TL_frr 73904 rfl ?_
          obtain ⟨g,h1⟩:=gd_t h1
          refine zv 4 rfl ⟨⟨tv,tv⟩,⟨⟨tv,tv,tv⟩,g⟩,tv,⟨tv,tv⟩,tv⟩ ?_
          refine TL_end ?_
          refine tbn ?_
          refine zt ?_
          refine zv 2 rfl ⟨⟨tv,tv,tv⟩,tv,tv⟩ ?_
          refine zm ?_
          exact TE_nextr [(65800,73900),(65801,73901),(65802,73902),(65803,73903),(65804,1110)] n (zs n) (_,_,_) h1 ⟨rfl,rfl,rfl,rfl,rfl,rfl,rfl,rfl,tv⟩ ⟨rfl,rfl,rfl,rfl,rfl,tv⟩ rfl
        ·replace h1:=bif_f h1 hb
         refine TC_exit ?_
         refine tsx ?_
         refine tsx ?_
         refine tbe ?_
         obtain rfl:=sinj h1
         refine tsn ?_
         exact SP_ren [(61500,65800),(61501,65801),(61502,65803),(61503,65804)] _ rfl ⟨rfl,rfl,rfl,rfl,tv⟩ ⟨rfl,rfl,rfl,rfl,tv⟩ rfl
       ·rintro x1373 hz
        obtain rfl:=hz.symm
        refine zg ?_
        refine zv 2 rfl ⟨⟨tv,tv⟩,⟨tv,tv⟩,tv⟩ ?_
        refine TL_frz 61503 rfl ?_
        obtain ⟨⟨r1374,r1375⟩,hr,h0⟩:=bnd h0
        refine TL_callB [] (subband_Pack.ok0 hr) subband_Pack.fnb rfl ⟨tv,⟨tv,⟨tv,tv⟩⟩⟩ rfl tv rfl ?_
        refine zv 5 rfl ⟨tv,tv,tv,tv,tv,tv⟩ ?_
        refine ze ?_
        refine TC_seq ?_
        refine TC_seq ?_
        obtain ⟨z1,h1,h0⟩:=bnd h0
        refine TC_cut (α:=Bool) (fun s=>z1 = s) (fun s=>[(4,.p 61600 0),(9,.p 61601 0),(126,.bool s)]) (fun s=>[(61600,some (.cells [.nils,.nils,.nils])),(61601,some (.cells [.im (.slice (.int .i64)) x1060,.im (.slice (.slice (.int .i64))) x1076,.im (.slice (.slice (.slice (.int .i64)))) x1373]))]) ?_ ?_
        ·refine TC_reg ?_
         refine zv 3 rfl ⟨tv,⟨tv,tv,tv⟩,tv,tv⟩ ?_
         refine TL_split 121 rfl (fun hb=>?_) (fun hb=>?_)
         ·replace h1:=bif_t h1 hb
          refine TL_gf (.bool false) rfl rfl rfl rfl rfl (by decide) ?_
          refine TL_gf (.bool false) rfl rfl rfl rfl rfl (by decide) ?_
          refine TL_gf (.bool false) rfl rfl rfl rfl rfl (by decide) ?_
          refine TL_gf (.bool false) rfl rfl rfl rfl rfl (by decide) ?_
          refine zv 1 rfl ⟨⟨tv,tv,fun e=>e⟩,tv⟩ ?_
          refine TL_end ?_
          obtain rfl:=sinj h1
          refine tsn ?_
          exact SP_ren [(61600,61501),(61601,61502)] _ rfl ⟨rfl,rfl,rfl,tv⟩ ⟨rfl,rfl,tv⟩ rfl
         ·replace h1:=bif_f h1 hb
          refine TL_gt rfl rfl rfl rfl ?_
          refine zv 1 rfl ⟨tv,tv⟩ ?_
          refine TL_gt rfl rfl rfl rfl ?_
          refine zv 1 rfl ⟨tv,tv⟩ ?_
          refine TL_gt rfl rfl rfl rfl ?_
          obtain ⟨r1378,hr,h1⟩:=bnd h1
          refine TL_callB [] (slices_Equal_byte_byte.ok0 hr) slices_Equal_byte_byte.fnb rfl ⟨tv,⟨tv,⟨tv,tv⟩⟩⟩ rfl tv rfl ?_
          refine TL_gt rfl rfl rfl rfl ?_
          refine zv 2 rfl ⟨tv,⟨tv,tv,tv⟩,tv⟩ ?_
          refine TL_end ?_
          obtain rfl:=sinj h1
          refine tsn ?_
          exact SP_ren [(61600,61501),(61601,61502)] _ rfl ⟨rfl,rfl,rfl,tv⟩ ⟨rfl,rfl,tv⟩ rfl
        ·rintro x1377 hz
         obtain rfl:=hz.symm
         refine TE_go ?_
         refine TC_cond rfl (fun hb=>?_) (fun hb=>?_)
         ·replace h0:=bif_t h0 hb
          refine zr ?_
          refine zv 3 rfl ⟨tv,⟨tv,tv⟩,tv,tv⟩ ?_
          refine ze ?_
          refine TC_ret ?_
          refine tsr ?_
          refine TE_imnC 61600 0 (.int .i64) rfl rfl ?_
          refine TE_imnC 61600 1 (.slice (.int .i64)) rfl rfl ?_
          refine TE_imnC 61600 2 (.slice (.slice (.int .i64))) rfl rfl ?_
          obtain rfl:=sinj h0
          exact TE_ret env rfl ⟨tv,tv⟩ tv
         ·replace h0:=bif_f h0 hb
          refine TC_skip ?_
          refine zg ?_
          refine zv 3 rfl ⟨⟨tv,tv⟩,⟨tv,tv⟩,tv,tv⟩ ?_
          refine ze ?_
          refine TC_ret ?_
          obtain rfl:=sinj h0
          exact TE_ret env rfl ⟨tv,tv⟩ tv
theorem subband_Parse.ok0 {K : Nat} {p0 p1 p2 p3 p4 p5 p6 p7 p8 p9 : Int} {p10 q0 : List Int} {q1 : List (List Int)} {q2 : List (List (List Int))} {q3 : Int} (h0 : subband_Parse K p0 p1 p2 p3 p4 p5 p6 p7 p8 p9 p10 = some (q0,q1,q2,q3)) : Fn Tryz.prog 14 [.agg [.int .i64 p0,.int .i64 p1,.int .i64 p2,.int .i64 p3,.int .i64 p4,.int .i64 p5,.int .i64 p6,.int .i64 p7,.int .i64 p8,.int .i64 p9],.im (.slice (.int .u8)) p10] [] (.tup [.agg [.im (.slice (.int .i64)) q0,.im (.slice (.slice (.int .i64))) q1,.im (.slice (.slice (.slice (.int .i64)))) q2],.int .i64 q3]) []:=subband_Parse.ok h0
theorem subband_Parse.fnb : fnb Tryz.prog 14 = true:=fnb_of Tryz.func14 rfl
def pcm_Part.res (_p0 : List Int) (_p1 : Int) : (List (List Int)) × Int → MV
 | (q0,q1)=>.tup [.im (.slice (.slice (.int .i16))) q0,.int .i64 q1]
def pcm_Part.out (_p0 : List Int) (_p1 : Int) : (List (List Int)) × Int → List (Nat × Option MObj)
 | (_,_)=>[]
theorem pcm_Part.ok {K : Nat} {p0 : List Int} {p1 : Int} {r : (List (List Int)) × Int} (h0 : pcm_Part K p0 p1 = some r) : Fn Tryz.prog 69 [.im (.slice (.int .i16)) p0,.int .i64 p1] [] (pcm_Part.res p0 p1 r) (pcm_Part.out p0 p1 r):=by
 refine Fn_of Tryz.func69 rfl (Nat.le_of_ble_eq_true rfl) fun Γ=>?_
 refine zr ?_
 refine zv 2 rfl ⟨tv,tv,tv⟩ ?_
 refine ze ?_
 refine TC_seq ?_
 refine zr ?_
 obtain ⟨g,h0⟩:=gd_t h0
 refine zv 13 rfl ⟨tv,⟨tv,tv,tv⟩,tv,fun eg=>tv,fun eg=>⟨fun e=>e,tv,tv⟩,⟨tv,tv,fun e=>e⟩,tv,fun eg=>tv,fun eg=>⟨fun e=>e,tv⟩,fun eg=>tv,fun eg=>⟨fun e=>e,fun e=>e,(g eg)⟩,fun eg=>⟨fun e=>e,tv,tv⟩,⟨tv,tv,fun e=>e⟩,tv⟩ ?_
 refine ze ?_
 refine TC_cond rfl (fun hb=>?_) (fun hb=>?_)
 ·replace h0:=bif_t h0 hb
  refine zr ?_
  refine zv 2 rfl ⟨tv,tv,tv⟩ ?_
  refine ze ?_
  refine TC_ret ?_
  refine tsr ?_
  refine TE_imn 4 (.slice (.int .i16)) rfl ?_
  obtain rfl:=sinj h0
  exact TE_ret env rfl tv tv
 ·replace h0:=bif_f h0 hb
  refine TC_skip ?_
  refine zg ?_
  obtain ⟨g,h0⟩:=gd_t h0
  refine zv 3 rfl ⟨tv,⟨tv,tv,g.1,g.2.1,g.2.2⟩,tv,tv⟩ ?_
  refine ze ?_
  refine TC_seq ?_
  refine zr ?_
  refine zv 3 rfl ⟨tv,⟨tv,tv⟩,tv,tv⟩ ?_
  refine ze ?_
  obtain ⟨z1,h1,h0⟩:=bnd h0
  refine TC_cut (α:=(List (List Int))) (fun s=>z1 = s) (fun s=>[(6,.sl 10800)]) (fun s=>[(10800,some (.rr true (.int .i16) s none))]) ?_ ?_
  ·refine TC_blk ?_
   refine TC_loop (α:=Int × (List (List Int))) (fun n s=>pcm_Part.l0 K p1 p0 (p0.length : Int) n s.1 s.2 = some z1) (fun s=>[(1,.int .i64 p1),(6,.sl 11000),(24,.im (.slice (.int .i16)) p0),(25,.int .i64 (p0.length : Int)),(26,.int .i64 s.1)]) (fun s=>[(11000,some (.rr true (.int .i16) s.2 none))]) K ?_ ?_
   ·exact SP_ren [(11000,1023)] (_,_) h1 ⟨rfl,rfl,rfl,rfl,rfl,tv⟩ ⟨rfl,tv⟩ rfl
   rintro n ⟨x17,x18⟩ h1
   rcases n with _ | n
   ·exact (nsome h1).elim
   replace h1 : pcm_Part.r0 K p1 p0 (p0.length : Int) (pcm_Part.l0 K p1 p0 (p0.length : Int) n) x17 x18 = some z1:=h1
   refine zr ?_
   refine zv 1 rfl ⟨⟨tv,tv,tv⟩,tv⟩ ?_
   refine ze ?_
   refine TC_seq ?_
   refine TC_cond rfl (fun hb=>?_) (fun hb=>?_)
   ·replace h1:=bif_t h1 hb
    refine TC_skip ?_
    refine TE_go ?_
    refine TC_seq ?_
    refine TC_blk ?_
    refine zr ?_
    obtain ⟨g,h1⟩:=gd_t h1
    refine zv 5 rfl ⟨tv,⟨tv,tv,g.1,g.2⟩,⟨tv,tv⟩,tv,tv,tv⟩ ?_
    refine ze ?_
    refine TC_renw (A':=[(1,.int .i64 _),(6,.sl 11000),(7,.int .i64 _),(8,.int .i16 _),(24,.im (.slice (.int .i16)) _),(25,.int .i64 _),(26,.int .i64 _)]) (L':=[(11000,some (.rr true (.int .i16) _ none))]) [] ⟨rfl,rfl,rfl,rfl,rfl,rfl,rfl,tv⟩ ⟨rfl,tv⟩ rfl ?_
    refine zd [[],[],[],[2,1],[],[],[],[6,5],[7,6,5,4],[8,7,6,5,4],[],[10],[11,10,9,8,7,6,5,4],[12,11,10,9,8,7,6,5,4,3,2,1,0],[13,12,11,10,9,8,7,6,5,4,3,2,1,0]] [[],[],[],[],[],[],[],[],[],[1040,11000],[],[1042],[1040,1043],[],[1043,11000]] [[],[],[],[],[],[],[],[],[],[1040],[],[1042],[1043],[],[]] [[1040,1042,1043,11000],[1040,1042,1043,11000],[1040,1042,1043,11000],[1040,1042,1043,11000],[1042],[1042],[1042],[1042],[1042],[1042],[1040,11000],[1040,11000],[],[],[]] (by kernel_rfl) (by kernel_rfl) ?_
    refine zj 1 rfl rfl rfl tv ?_
    refine zj 2 rfl rfl rfl tv ?_
    refine zj 3 rfl rfl rfl tv ?_
    obtain ⟨g,h1⟩:=gd_t h1
    refine zj 4 rfl rfl rfl ⟨tv,tv,g⟩ ?_
    refine zj 5 rfl rfl rfl tv ?_
    refine zj 6 rfl rfl rfl tv ?_
    refine zj 7 rfl rfl rfl tv ?_
    obtain ⟨g,h1⟩:=gd_t h1
    refine zj 8 rfl rfl rfl ⟨tv,tv,g⟩ ?_
    obtain ⟨g,h1⟩:=gd_t h1
    refine zj 9 rfl rfl rfl ⟨tv,tv,g.1,g.2⟩ ?_
    obtain ⟨g,h1⟩:=gd_t h1
    refine zj 10 rfl rfl rfl ⟨tv,g⟩ ?_
    refine zj 11 rfl rfl rfl tv ?_
    refine zj 12 rfl rfl rfl ⟨tv,tv⟩ ?_
    obtain ⟨g,h1⟩:=gd_t h1
    refine zj 13 rfl rfl rfl ⟨⟨tv,tv,tv⟩,g⟩ ?_
    obtain ⟨g,h1⟩:=gd_t h1
    refine zj 14 rfl rfl rfl ⟨tv,tv,g.1,g.2⟩ ?_
    obtain ⟨g,h1⟩:=gd_t h1
    refine zj 15 rfl rfl rfl ⟨tv,tv,g,rfl⟩ ?_
    refine AJR_end rfl rfl rfl ?_
    refine tbn ?_
    refine zt ?_
    refine zv 2 rfl ⟨⟨tv,tv,tv⟩,tv,tv⟩ ?_
    refine zm ?_
    exact TE_nextr [(11000,11000)] n (zs n) (_,_) h1 ⟨rfl,rfl,rfl,rfl,rfl,tv⟩ ⟨rfl,tv⟩ rfl
   ·replace h1:=bif_f h1 hb
    refine TC_exit ?_
    refine tsx ?_
    refine tsx ?_
    refine tbe ?_
    obtain rfl:=sinj h1
    refine tsn ?_
    exact SP_ren [(10800,11000)] _ rfl ⟨rfl,tv⟩ ⟨rfl,tv⟩ rfl
  ·rintro x16 hz
   obtain rfl:=hz.symm
   refine zg ?_
   refine zv 3 rfl ⟨tv,tv,tv,tv⟩ ?_
   refine ze ?_
   refine TC_ret ?_
   refine TE_frr 10800 rfl ?_
   obtain rfl:=sinj h0
   exact TE_ret env rfl tv tv
theorem pcm_Part.ok0 {K : Nat} {p0 : List Int} {p1 : Int} {q0 : List (List Int)} {q1 : Int} (h0 : pcm_Part K p0 p1 = some (q0,q1)) : Fn Tryz.prog 69 [.im (.slice (.int .i16)) p0,.int .i64 p1] [] (.tup [.im (.slice (.slice (.int .i16))) q0,.int .i64 q1]) []:=pcm_Part.ok h0
theorem pcm_Part.fnb : fnb Tryz.prog 69 = true:=fnb_of Tryz.func69 rfl
def fix_Sat32.res (_p0 : Int) : Int → MV
 | q0=>.int .i32 q0
def fix_Sat32.out (_p0 : Int) : Int → List (Nat × Option MObj)
 | _=>[]
theorem fix_Sat32.ok {K : Nat} {p0 r : Int} (h0 : fix_Sat32 K p0 = some r) : Fn Tryz.prog 170 [.int .i64 p0] [] (fix_Sat32.res p0 r) (fix_Sat32.out p0 r):=by
 refine Fn_of Tryz.func170 rfl (Nat.le_of_ble_eq_true rfl) fun Γ=>?_
 refine zr ?_
 refine zv 1 rfl ⟨tv,tv⟩ ?_
 refine zn ?_
 refine zv 1 rfl ⟨tv,tv⟩ ?_
 obtain ⟨r2,hr,h0⟩:=bnd h0
 refine TL_callB [] (fix_within_int64.ok0 hr) fix_within_int64.fnb rfl ⟨tv,⟨tv,⟨tv,⟨tv,tv⟩⟩⟩⟩ rfl tv rfl ?_
 refine zv 2 rfl ⟨tv,tv,tv⟩ ?_
 refine ze ?_
 refine TC_ret ?_
 obtain rfl:=sinj h0
 exact TE_ret env rfl tv tv
theorem fix_Sat32.ok0 {K : Nat} {p0 q0 : Int} (h0 : fix_Sat32 K p0 = some q0) : Fn Tryz.prog 170 [.int .i64 p0] [] (.int .i32 q0) []:=fix_Sat32.ok h0
theorem fix_Sat32.fnb : fnb Tryz.prog 170 = true:=fnb_of Tryz.func170 rfl
def poly_rounded.res (_p0 _p1 : Int) : Int → MV
 | q0=>.int .i64 q0
def poly_rounded.out (_p0 _p1 : Int) : Int → List (Nat × Option MObj)
 | _=>[]
theorem poly_rounded.ok {K : Nat} {p0 p1 r : Int} (h0 : poly_rounded K p0 p1 = some r) : Fn Tryz.prog 125 [.int .i64 p0,.int .i64 p1] [] (poly_rounded.res p0 p1 r) (poly_rounded.out p0 p1 r):=by
 refine Fn_of Tryz.func125 rfl (Nat.le_of_ble_eq_true rfl) fun Γ=>?_
 refine zr ?_
 refine zv 1 rfl ⟨tv,tv⟩ ?_
 refine zn ?_
 refine zv 2 rfl ⟨tv,tv,tv⟩ ?_
 obtain ⟨r3,hr,h0⟩:=bnd h0
 refine TL_callB [] (fix_Round.ok0 hr) fix_Round.fnb rfl ⟨tv,⟨tv,⟨tv,tv⟩⟩⟩ rfl tv rfl ?_
 obtain ⟨r4,hr,h0⟩:=bnd h0
 refine TL_callB [] (fix_Sat32.ok0 hr) fix_Sat32.fnb rfl ⟨tv,⟨tv,tv⟩⟩ rfl tv rfl ?_
 refine zv 2 rfl ⟨tv,tv,tv⟩ ?_
 refine ze ?_
 refine TC_ret ?_
 obtain rfl:=sinj h0
 exact TE_ret env rfl tv tv
theorem poly_rounded.ok0 {K : Nat} {p0 p1 q0 : Int} (h0 : poly_rounded K p0 p1 = some q0) : Fn Tryz.prog 125 [.int .i64 p0,.int .i64 p1] [] (.int .i64 q0) []:=poly_rounded.ok h0
theorem poly_rounded.fnb : fnb Tryz.prog 125 = true:=fnb_of Tryz.func125 rfl
def poly_bands_wave.res (_p0 _p1 _p2 : Int) (_p3 _p4 _p5 : List Int) : Int → MV
 | q0=>.int .i64 q0
def poly_bands_wave.out (_p0 _p1 p2 : Int) (p3 p4 p5 : List Int) : Int → List (Nat × Option MObj)
 | _=>[(0,some (.cells [.int .i64 p2,.im (.slice (.int .i16)) p3,.im (.slice (.int .i16)) p4,.sl 1])),(1,some (.rows (.int .i64) p5))]
theorem poly_bands_wave.ok {K : Nat} {p0 p1 p2 : Int} {p3 p4 p5 : List Int} {r : Int} (h0 : poly_bands_wave K p0 p1 p2 p3 p4 p5 = some r) : Fn Tryz.prog 126 [.p 0 0,.int .i64 p0,.int .i64 p1] [(0,some (.cells [.int .i64 p2,.im (.slice (.int .i16)) p3,.im (.slice (.int .i16)) p4,.sl 1])),(1,some (.rows (.int .i64) p5))] (poly_bands_wave.res p0 p1 p2 p3 p4 p5 r) (poly_bands_wave.out p0 p1 p2 p3 p4 p5 r):=by
 refine Fn_of Tryz.func126 rfl (Nat.le_of_ble_eq_true rfl) fun Γ=>?_
 refine zr ?_
 refine zv 1 rfl ⟨tv,tv⟩ ?_
 refine zn ?_
 refine zv 6 rfl ⟨tv,tv,tv,⟨tv,tv⟩,⟨tv,tv,tv⟩,tv,tv⟩ ?_
 refine ze ?_
 refine TC_seq ?_
 refine TC_renw (A':=[(0,.p 0 0),(1,.int .i64 _),(2,.int .i64 _),(6,.int .i64 0),(7,.int .i64 _)]) (L':=[(0,some (.cells [.int .i64 _,.im (.slice (.int .i16)) _,.im (.slice (.int .i16)) _,.sl 1])),(1,some (.rows (.int .i64) _))]) [] ⟨rfl,rfl,rfl,rfl,rfl,tv⟩ ⟨rfl,rfl,tv⟩ rfl ?_
 refine zd [[],[0],[1,0],[2,1,0],[],[],[5,4],[],[7,6,5,4],[],[9,8,7,6,5,4],[],[11,10,9,8,7,6,5,4],[12,11,10,9,8,7,6,5,4,3,2,1,0],[13,12,11,10,9,8,7,6,5,4,3,2,1,0],[14,13,12,11,10,9,8,7,6,5,4,3,2,1,0],[15,14,13,12,11,10,9,8,7,6,5,4,3,2,1,0]] [[],[],[],[],[],[],[],[],[],[],[],[],[],[],[],[],[]] [[],[],[],[],[],[],[],[],[],[],[],[],[],[],[],[],[]] [[],[],[],[],[],[],[],[],[],[],[],[],[],[],[],[],[]] (by kernel_rfl) (by kernel_rfl) ?_
 refine zj 1 rfl rfl rfl tv ?_
 refine zj 2 rfl rfl rfl tv ?_
 refine zj 3 rfl rfl rfl tv ?_
 refine zj 4 rfl rfl rfl ⟨tv,tv⟩ ?_
 refine zj 5 rfl rfl rfl tv ?_
 refine zj 6 rfl rfl rfl tv ?_
 refine zj 7 rfl rfl rfl ⟨tv,tv,tv⟩ ?_
 refine zj 8 rfl rfl rfl tv ?_
 obtain ⟨g,h0⟩:=gd_t h0
 refine zj 9 rfl rfl rfl ⟨tv,tv,g⟩ ?_
 refine zj 10 rfl rfl rfl tv ?_
 refine zj 11 rfl rfl rfl ⟨tv,tv,tv⟩ ?_
 refine zj 12 rfl rfl rfl tv ?_
 obtain ⟨g,h0⟩:=gd_t h0
 refine zj 13 rfl rfl rfl ⟨tv,tv,g⟩ ?_
 obtain ⟨g,h0⟩:=gd_t h0
 refine zj 14 rfl rfl rfl ⟨tv,tv,g.1,g.2⟩ ?_
 refine zj 15 rfl rfl rfl ⟨tv,tv⟩ ?_
 refine zj 16 rfl rfl rfl tv ?_
 refine zj 17 rfl rfl rfl tv ?_
 refine AJR_end rfl rfl rfl ?_
 refine zu ?_
 obtain rfl:=sinj h0
 exact TE_ret env rfl tv ⟨.inr rfl,.inr rfl,tv⟩
theorem poly_bands_wave.ok0 {K : Nat} {p0 p1 p2 : Int} {p3 p4 p5 : List Int} {q0 : Int} (h0 : poly_bands_wave K p0 p1 p2 p3 p4 p5 = some q0) : Fn Tryz.prog 126 [.p 0 0,.int .i64 p0,.int .i64 p1] [(0,some (.cells [.int .i64 p2,.im (.slice (.int .i16)) p3,.im (.slice (.int .i16)) p4,.sl 1])),(1,some (.rows (.int .i64) p5))] (.int .i64 q0) [(0,some (.cells [.int .i64 p2,.im (.slice (.int .i16)) p3,.im (.slice (.int .i16)) p4,.sl 1])),(1,some (.rows (.int .i64) p5))]:=poly_bands_wave.ok h0
theorem poly_bands_wave.fnb : fnb Tryz.prog 126 = true:=fnb_of Tryz.func126 rfl
def poly_Splitter_Feed.res (_p0 : List Int) (_p1 : Int) (_p2 _p3 _p4 : List Int) : (List Int) × Int × (List Int) → MV
 | (q0,q1,_)=>.tup [.im (.slice (.int .i32)) q0,.int .i64 q1]
def poly_Splitter_Feed.out (_p0 : List Int) (p1 : Int) (p2 p3 _p4 : List Int) : (List Int) × Int × (List Int) → List (Nat × Option MObj)
 | (_,_,q2)=>[(0,some (.cells [.int .i64 p1,.im (.slice (.int .i16)) p2,.im (.slice (.int .i16)) p3,.sl 1])),(1,some (.rows (.int .i64) q2))]
theorem poly_Splitter_Feed.ok {K : Nat} {p0 : List Int} {p1 : Int} {p2 p3 p4 : List Int} {r : (List Int) × Int × (List Int)} (h0 : poly_Splitter_Feed K p0 p1 p2 p3 p4 = some r) : Fn Tryz.prog 70 [.p 0 0,.im (.slice (.int .i16)) p0] [(0,some (.cells [.int .i64 p1,.im (.slice (.int .i16)) p2,.im (.slice (.int .i16)) p3,.sl 1])),(1,some (.rows (.int .i64) p4))] (poly_Splitter_Feed.res p0 p1 p2 p3 p4 r) (poly_Splitter_Feed.out p0 p1 p2 p3 p4 r):=by
 refine Fn_of Tryz.func70 rfl (Nat.le_of_ble_eq_true rfl) fun Γ=>?_
 refine zr ?_
 refine zv 2 rfl ⟨tv,tv,tv⟩ ?_
 refine ze ?_
 refine TC_seq ?_
 refine TC_blk ?_
 refine zr ?_
 refine zv 3 rfl ⟨tv,⟨tv,tv,tv⟩,tv,tv⟩ ?_
 refine ze ?_
 refine TC_cond rfl (fun hb=>?_) (fun hb=>?_)
 ·first | exact (ftf hb).elim | exact (tff hb).elim | exact absurd hb (by decide)
 ·refine zr ?_
  refine zv 9 rfl ⟨tv,⟨tv,tv⟩,tv,tv,tv,tv,⟨tv,tv⟩,⟨tv,tv,tv⟩,tv,tv⟩ ?_
  refine ze ?_
  refine TC_cond rfl (fun hb=>?_) (fun hb=>?_)
  ·replace h0:=bif_t h0 hb
   refine zr ?_
   refine zv 2 rfl ⟨tv,tv,tv⟩ ?_
   refine ze ?_
   refine TC_ret ?_
   refine tbr ?_
   refine tsr ?_
   refine TE_imn 4 (.int .i32) rfl ?_
   obtain rfl:=sinj h0
   exact TE_ret env rfl tv ⟨.inr rfl,.inr rfl,tv⟩
  ·replace h0:=bif_f h0 hb
   refine TC_skip ?_
   refine tbn ?_
   refine TE_go ?_
   refine TC_seq ?_
   refine TC_renw (A':=[(0,.p 0 0),(1,.im (.slice (.int .i16)) _)]) (L':=[(0,some (.cells [.int .i64 _,.im (.slice (.int .i16)) _,.im (.slice (.int .i16)) _,.sl 1])),(1,some (.rows (.int .i64) _))]) [] ⟨rfl,rfl,tv⟩ ⟨rfl,rfl,tv⟩ rfl ?_
   refine zd [[],[0],[1,0],[2,1,0],[],[4],[5,4],[6,5,4],[7,6,5,4],[8,7,6,5,4,3,2,1,0],[],[10],[11,10],[12,11,10],[13,12,11,10,9,8,7,6,5,4,3,2,1,0]] [[],[],[],[],[],[],[],[],[],[],[],[],[],[],[1]] [[],[],[],[],[],[],[],[],[],[],[],[],[],[],[]] [[],[],[],[],[],[],[],[],[],[],[],[],[],[],[]] (by kernel_rfl) (by kernel_rfl) ?_
   refine zj 1 rfl rfl rfl tv ?_
   refine zj 2 rfl rfl rfl tv ?_
   refine zj 3 rfl rfl rfl tv ?_
   refine zj 4 rfl rfl rfl ⟨tv,tv⟩ ?_
   refine zj 5 rfl rfl rfl tv ?_
   refine zj 6 rfl rfl rfl tv ?_
   refine zj 7 rfl rfl rfl tv ?_
   refine zj 8 rfl rfl rfl tv ?_
   refine zj 9 rfl rfl rfl ⟨tv,tv⟩ ?_
   obtain ⟨g,h0⟩:=gd_t h0
   refine zj 10 rfl rfl rfl ⟨tv,tv,tv,g.1,g.2⟩ ?_
   refine zj 11 rfl rfl rfl tv ?_
   refine zj 12 rfl rfl rfl tv ?_
   refine zj 13 rfl rfl rfl tv ?_
   refine zj 14 rfl rfl rfl ⟨tv,tv⟩ ?_
   obtain ⟨g,h0⟩:=gd_t h0
   refine zj 15 rfl rfl rfl ⟨⟨tv,tv,tv⟩,g,tv⟩ ?_
   refine AJR_end rfl rfl rfl ?_
   refine TE_go ?_
   refine TC_seq ?_
   refine zr ?_
   refine zv 3 rfl ⟨tv,⟨tv,tv⟩,tv,tv⟩ ?_
   refine ze ?_
   obtain ⟨z1,h1,h0⟩:=bnd h0
   refine TC_cut (α:=(List Int)) (fun s=>z1 = s) (fun s=>[(0,.p 0 0)]) (fun s=>[(0,some (.cells [.int .i64 p1,.im (.slice (.int .i16)) p2,.im (.slice (.int .i16)) p3,.sl 1])),(1,some (.rows (.int .i64) s))]) ?_ ?_
   ·refine TC_blk ?_
    refine TC_loop (α:=Int × (List Int)) (fun n s=>poly_Splitter_Feed.l4 K p0 (p0.length : Int) p1 p2 p3 n s.1 s.2 = some z1) (fun s=>[(0,.p 0 0),(45,.im (.slice (.int .i16)) p0),(46,.int .i64 (p0.length : Int)),(47,.int .i64 s.1)]) (fun s=>[(0,some (.cells [.int .i64 p1,.im (.slice (.int .i16)) p2,.im (.slice (.int .i16)) p3,.sl 1])),(1,some (.rows (.int .i64) s.2))]) K ?_ ?_
    ·exact SP_ren [] (_,_) h1 ⟨rfl,rfl,rfl,rfl,tv⟩ ⟨rfl,rfl,tv⟩ rfl
    rintro n ⟨x312,x313⟩ h1
    rcases n with _ | n
    ·exact (nsome h1).elim
    replace h1 : poly_Splitter_Feed.r4 K p0 (p0.length : Int) p1 p2 p3 (poly_Splitter_Feed.l4 K p0 (p0.length : Int) p1 p2 p3 n) x312 x313 = some z1:=h1
    refine zr ?_
    refine zv 1 rfl ⟨⟨tv,tv,tv⟩,tv⟩ ?_
    refine ze ?_
    refine TC_seq ?_
    refine TC_cond rfl (fun hb=>?_) (fun hb=>?_)
    ·replace h1:=bif_t h1 hb
     refine TC_skip ?_
     refine TE_go ?_
     refine TC_seq ?_
     refine TC_blk ?_
     refine zr ?_
     obtain ⟨g,h1⟩:=gd_t h1
     refine zv 5 rfl ⟨tv,⟨tv,tv,g.1,g.2⟩,⟨tv,tv⟩,tv,tv,tv⟩ ?_
     refine ze ?_
     refine TC_renw (A':=[(0,.p 0 0),(6,.int .i64 _),(7,.int .i16 _),(45,.im (.slice (.int .i16)) _),(46,.int .i64 _),(47,.int .i64 _)]) (L':=[(0,some (.cells [.int .i64 _,.im (.slice (.int .i16)) _,.im (.slice (.int .i16)) _,.sl 1])),(1,some (.rows (.int .i64) _))]) [] ⟨rfl,rfl,rfl,rfl,rfl,rfl,tv⟩ ⟨rfl,rfl,tv⟩ rfl ?_
     refine zd [[],[0],[1,0],[2,1,0],[],[4],[5,4],[6,5,4],[7,6,5,4],[8,7,6,5,4],[],[10,9,8,7,6,5,4],[],[12],[13,12,11,10,9,8,7,6,5,4,3,2,1,0],[14,13,12,11,10,9,8,7,6,5,4,3,2,1,0]] [[],[],[],[],[],[],[],[],[],[],[],[],[],[],[],[1]] [[],[],[],[],[],[],[],[],[],[],[],[],[],[],[],[]] [[],[],[],[],[],[],[],[],[],[],[],[],[],[],[],[]] (by kernel_rfl) (by kernel_rfl) ?_
     refine zj 1 rfl rfl rfl tv ?_
     refine zj 2 rfl rfl rfl tv ?_
     refine zj 3 rfl rfl rfl tv ?_
     refine zj 4 rfl rfl rfl ⟨tv,tv⟩ ?_
     refine zj 5 rfl rfl rfl tv ?_
     refine zj 6 rfl rfl rfl tv ?_
     refine zj 7 rfl rfl rfl tv ?_
     refine zj 8 rfl rfl rfl tv ?_
     refine zj 9 rfl rfl rfl ⟨tv,tv⟩ ?_
     refine zj 10 rfl rfl rfl ⟨tv,tv,tv⟩ ?_
     refine zj 11 rfl rfl rfl tv ?_
     refine zj 12 rfl rfl rfl ⟨tv,tv,tv⟩ ?_
     refine zj 13 rfl rfl rfl tv ?_
     refine zj 14 rfl rfl rfl tv ?_
     obtain ⟨g,h1⟩:=gd_t h1
     refine zj 15 rfl rfl rfl ⟨tv,tv,g.1,g.2⟩ ?_
     obtain ⟨g,h1⟩:=gd_t h1
     refine zj 16 rfl rfl rfl ⟨tv,tv,g⟩ ?_
     refine AJR_end rfl rfl rfl ?_
     refine tbn ?_
     refine zt ?_
     refine zv 2 rfl ⟨⟨tv,tv,tv⟩,tv,tv⟩ ?_
     refine zm ?_
     exact TE_nextr [] n (zs n) (_,_) h1 ⟨rfl,rfl,rfl,rfl,tv⟩ ⟨rfl,rfl,tv⟩ rfl
    ·replace h1:=bif_f h1 hb
     refine TC_exit ?_
     refine tsx ?_
     refine tsx ?_
     refine tbe ?_
     obtain rfl:=sinj h1
     refine tsn ?_
     exact SP_ren [] _ rfl ⟨rfl,tv⟩ ⟨rfl,rfl,tv⟩ rfl
   ·rintro x86 hz
    obtain rfl:=hz.symm
    refine zg ?_
    obtain ⟨g,h0⟩:=gd_t h0
    refine zv 8 rfl ⟨tv,tv,tv,tv,⟨tv,tv⟩,⟨tv,tv,tv⟩,⟨tv,tv,g.1,g.2.1,g.2.2⟩,tv,tv⟩ ?_
    refine ze ?_
    refine TC_seq ?_
    refine zr ?_
    refine zv 3 rfl ⟨tv,⟨tv,tv⟩,tv,tv⟩ ?_
    refine ze ?_
    obtain ⟨z1,h1,h0⟩:=bnd h0
    refine TC_cut (α:=(List Int)) (fun s=>z1 = s) (fun s=>[(0,.p 0 0),(8,.sl 16802)]) (fun s=>[(0,some (.cells [.int .i64 p1,.im (.slice (.int .i16)) p2,.im (.slice (.int .i16)) p3,.sl 1])),(1,some (.rows (.int .i64) x86)),(16802,some (.rows (.int .i64) s))]) ?_ ?_
    ·refine TC_blk ?_
     refine TC_loop (α:=Int × (List Int)) (fun n s=>poly_Splitter_Feed.l2 K ((List.replicate (Int.toNat (kwrap .i64 (2 * p1))) (0 : Int)).length : Int) p1 p2 p3 x86 n s.1 s.2 = some z1) (fun s=>[(0,.p 0 0),(8,.sl 22802),(76,.int .i64 ((List.replicate (Int.toNat (kwrap .i64 (2 * p1))) (0 : Int)).length : Int)),(77,.int .i64 s.1)]) (fun s=>[(0,some (.cells [.int .i64 p1,.im (.slice (.int .i16)) p2,.im (.slice (.int .i16)) p3,.sl 1])),(1,some (.rows (.int .i64) x86)),(22802,some (.rows (.int .i64) s.2))]) K ?_ ?_
     ·exact SP_ren [(22802,1074)] (_,_) h1 ⟨rfl,rfl,rfl,rfl,tv⟩ ⟨rfl,rfl,rfl,tv⟩ rfl
     rintro n ⟨x266,x267⟩ h1
     rcases n with _ | n
     ·exact (nsome h1).elim
     replace h1 : poly_Splitter_Feed.r2 K ((List.replicate (Int.toNat (kwrap .i64 (2 * p1))) (0 : Int)).length : Int) p1 p2 p3 x86 (poly_Splitter_Feed.l2 K ((List.replicate (Int.toNat (kwrap .i64 (2 * p1))) (0 : Int)).length : Int) p1 p2 p3 x86 n) x266 x267 = some z1:=h1
     refine zr ?_
     refine zv 1 rfl ⟨⟨tv,tv,tv⟩,tv⟩ ?_
     refine ze ?_
     refine TC_seq ?_
     refine TC_cond rfl (fun hb=>?_) (fun hb=>?_)
     ·replace h1:=bif_t h1 hb
      refine TC_skip ?_
      refine TE_go ?_
      refine TC_seq ?_
      refine TC_blk ?_
      refine zr ?_
      refine zv 2 rfl ⟨tv,tv,tv⟩ ?_
      refine zn ?_
      refine zv 1 rfl ⟨tv,tv⟩ ?_
      refine ze ?_
      refine TC_seq ?_
      refine zr ?_
      refine zv 1 rfl ⟨tv,tv⟩ ?_
      refine ze ?_
      obtain ⟨z2,h2,h1⟩:=bnd h1
      refine TC_cut (α:=Int) (fun s=>z2 = s) (fun s=>[(0,.p 0 0),(8,.sl 24502),(9,.int .i64 x266),(10,.int .i64 s),(76,.int .i64 ((List.replicate (Int.toNat (kwrap .i64 (2 * p1))) (0 : Int)).length : Int)),(77,.int .i64 x266)]) (fun s=>[(0,some (.cells [.int .i64 p1,.im (.slice (.int .i16)) p2,.im (.slice (.int .i16)) p3,.sl 1])),(1,some (.rows (.int .i64) x86)),(24502,some (.rows (.int .i64) x267))]) ?_ ?_
      ·refine TC_blk ?_
       refine TC_loop (α:=Int × Int) (fun n s=>poly_Splitter_Feed.l3 K x266 ((List.replicate (Int.toNat (kwrap .i64 (2 * p1))) (0 : Int)).length : Int) p1 p2 p3 x86 x267 n s.1 s.2 = some z2) (fun s=>[(0,.p 0 0),(8,.sl 24702),(9,.int .i64 x266),(10,.int .i64 s.1),(76,.int .i64 ((List.replicate (Int.toNat (kwrap .i64 (2 * p1))) (0 : Int)).length : Int)),(77,.int .i64 x266),(80,.int .i64 s.2)]) (fun s=>[(0,some (.cells [.int .i64 p1,.im (.slice (.int .i16)) p2,.im (.slice (.int .i16)) p3,.sl 1])),(1,some (.rows (.int .i64) x86)),(24702,some (.rows (.int .i64) x267))]) K ?_ ?_
       ·exact SP_ren [(24702,22802)] (_,_) h2 ⟨rfl,rfl,rfl,rfl,rfl,rfl,rfl,tv⟩ ⟨rfl,rfl,rfl,tv⟩ rfl
       rintro n ⟨x297,x298⟩ h2
       rcases n with _ | n
       ·exact (nsome h2).elim
       replace h2 : poly_Splitter_Feed.r3 K x266 ((List.replicate (Int.toNat (kwrap .i64 (2 * p1))) (0 : Int)).length : Int) p1 p2 p3 x86 x267 (poly_Splitter_Feed.l3 K x266 ((List.replicate (Int.toNat (kwrap .i64 (2 * p1))) (0 : Int)).length : Int) p1 p2 p3 x86 x267 n) x297 x298 = some z2:=h2
       refine zr ?_
       refine zv 1 rfl ⟨⟨tv,tv,tv⟩,tv⟩ ?_
       refine ze ?_
       refine TC_seq ?_
       refine TC_cond rfl (fun hb=>?_) (fun hb=>?_)
       ·replace h2:=bif_t h2 hb
        refine TC_skip ?_
        refine TE_go ?_
        refine TC_seq ?_
        refine TC_blk ?_
        refine zr ?_
        refine zv 2 rfl ⟨tv,tv,tv⟩ ?_
        refine zn ?_
        refine zv 11 rfl ⟨tv,tv,tv,tv,tv,⟨tv,tv⟩,⟨tv,tv,tv⟩,tv,⟨tv,tv,tv⟩,⟨tv,tv,tv⟩,tv,tv⟩ ?_
        refine ze ?_
        refine TC_renw (A':=[(0,.p 0 0),(8,.sl 24702),(9,.int .i64 _),(10,.int .i64 _),(12,.int .i64 _),(76,.int .i64 _),(77,.int .i64 _),(80,.int .i64 _)]) (L':=[(0,some (.cells [.int .i64 _,.im (.slice (.int .i16)) _,.im (.slice (.int .i16)) _,.sl 1])),(1,some (.rows (.int .i64) _)),(24702,some (.rows (.int .i64) _))]) [] ⟨rfl,rfl,rfl,rfl,rfl,rfl,rfl,rfl,tv⟩ ⟨rfl,rfl,rfl,tv⟩ rfl ?_
        refine zd [[],[0],[1,0],[2,1,0],[],[4,3,2,1,0],[5,4,3,2,1,0],[],[7],[8,7],[9,8,7],[10,9,8,7],[],[12,11,10,9,8,7],[13,12,11,10,9,8,7],[14,13,12,11,10,9,8,7],[15,14,13,12,11,10,9,8,7,6,5,4,3,2,1,0],[],[17,16,15,14,13,12,11,10,9,8,7,6,5,4,3,2,1,0],[18,17,16,15,14,13,12,11,10,9,8,7,6,5,4,3,2,1,0]] [[],[],[],[],[],[],[],[],[],[],[],[],[],[],[],[],[],[],[],[]] [[],[],[],[],[],[],[],[],[],[],[],[],[],[],[],[],[],[],[],[]] [[],[],[],[],[],[],[],[],[],[],[],[],[],[],[],[],[],[],[],[]] (by kernel_rfl) (by kernel_rfl) ?_
        refine zj 1 rfl rfl rfl tv ?_
        refine zj 2 rfl rfl rfl tv ?_
        refine zj 3 rfl rfl rfl tv ?_
        refine zj 4 rfl rfl rfl ⟨tv,tv⟩ ?_
        refine zj 5 rfl rfl rfl tv ?_
        obtain ⟨g,h2⟩:=gd_t h2
        refine zj 6 rfl rfl rfl ⟨tv,tv,g.1,g.2⟩ ?_
        obtain ⟨g,h2⟩:=gd_t h2
        refine zj 7 rfl rfl rfl ⟨tv,g⟩ ?_
        refine zj 8 rfl rfl rfl tv ?_
        refine zj 9 rfl rfl rfl tv ?_
        refine zj 10 rfl rfl rfl tv ?_
        refine zj 11 rfl rfl rfl tv ?_
        refine zj 12 rfl rfl rfl ⟨tv,tv⟩ ?_
        refine zj 13 rfl rfl rfl tv ?_
        obtain ⟨g,h2⟩:=gd_t h2
        refine zj 14 rfl rfl rfl ⟨tv,tv,g.1,g.2⟩ ?_
        refine zj 15 rfl rfl rfl ⟨tv,tv⟩ ?_
        refine zj 16 rfl rfl rfl tv ?_
        refine zj 17 rfl rfl rfl ⟨tv,tv,tv⟩ ?_
        refine zj 18 rfl rfl rfl tv ?_
        refine zj 19 rfl rfl rfl ⟨tv,tv,tv⟩ ?_
        refine zj 20 rfl rfl rfl tv ?_
        refine AJR_end rfl rfl rfl ?_
        refine tbn ?_
        refine zt ?_
        refine zv 2 rfl ⟨⟨tv,tv,tv⟩,tv,tv⟩ ?_
        refine zm ?_
        exact TE_nextr [(24702,24702)] n (zs n) (_,_) h2 ⟨rfl,rfl,rfl,rfl,rfl,rfl,rfl,tv⟩ ⟨rfl,rfl,rfl,tv⟩ rfl
       ·replace h2:=bif_f h2 hb
        refine TC_exit ?_
        refine tsx ?_
        refine tsx ?_
        refine tbe ?_
        obtain rfl:=sinj h2
        refine tsn ?_
        exact SP_ren [(24502,24702)] _ rfl ⟨rfl,rfl,rfl,rfl,rfl,rfl,tv⟩ ⟨rfl,rfl,rfl,tv⟩ rfl
      ·rintro x293 hz
       obtain rfl:=hz.symm
       refine zt ?_
       refine zv 4 rfl ⟨tv,tv,tv,tv,tv⟩ ?_
       obtain ⟨r294,hr,h1⟩:=bnd h1
       refine TL_callB [] (poly_rounded.ok0 hr) poly_rounded.fnb rfl ⟨tv,⟨tv,⟨tv,tv⟩⟩⟩ rfl tv rfl ?_
       obtain ⟨g,h1⟩:=gd_t h1
       refine zv 2 rfl ⟨⟨tv,tv,g.1,g.2.1⟩,⟨tv,tv,g.2.2⟩,tv⟩ ?_
       refine TL_end ?_
       refine tbn ?_
       refine zt ?_
       refine zv 2 rfl ⟨⟨tv,tv,tv⟩,tv,tv⟩ ?_
       refine zm ?_
       exact TE_nextr [(22802,24502)] n (zs n) (_,_) h1 ⟨rfl,rfl,rfl,rfl,tv⟩ ⟨rfl,rfl,rfl,tv⟩ rfl
     ·replace h1:=bif_f h1 hb
      refine TC_exit ?_
      refine tsx ?_
      refine tsx ?_
      refine tbe ?_
      obtain rfl:=sinj h1
      refine tsn ?_
      exact SP_ren [(16802,22802)] _ rfl ⟨rfl,rfl,tv⟩ ⟨rfl,rfl,rfl,tv⟩ rfl
    ·rintro x118 hz
     obtain rfl:=hz.symm
     refine zg ?_
     obtain ⟨g,h0⟩:=gd_t h0
     refine zv 7 rfl ⟨tv,tv,tv,tv,⟨tv,tv⟩,⟨tv,tv,g.1,g.2.1,g.2.2⟩,tv,tv⟩ ?_
     refine ze ?_
     refine TC_seq ?_
     refine zr ?_
     refine zv 3 rfl ⟨tv,⟨tv,tv⟩,tv,tv⟩ ?_
     refine ze ?_
     obtain ⟨z1,h1,h0⟩:=bnd h0
     refine TC_cut (α:=(List Int)) (fun s=>z1 = s) (fun s=>[(13,.sl 18802)]) (fun s=>[(0,some (.cells [.int .i64 p1,.im (.slice (.int .i16)) p2,.im (.slice (.int .i16)) p3,.sl 1])),(1,some (.rows (.int .i64) x86)),(18802,some (.rows (.int .i32) s))]) ?_ ?_
     ·refine TC_blk ?_
      refine TC_loop (α:=Int × (List Int)) (fun n s=>poly_Splitter_Feed.l0 K ((List.replicate (Int.toNat p1) (0 : Int)).length : Int) p1 p2 p3 x86 x118 n s.1 s.2 = some z1) (fun s=>[(0,.p 0 0),(8,.sl 19802),(13,.sl 19803),(127,.int .i64 ((List.replicate (Int.toNat p1) (0 : Int)).length : Int)),(128,.int .i64 s.1)]) (fun s=>[(0,some (.cells [.int .i64 p1,.im (.slice (.int .i16)) p2,.im (.slice (.int .i16)) p3,.sl 1])),(1,some (.rows (.int .i64) x86)),(19802,some (.rows (.int .i64) x118)),(19803,some (.rows (.int .i32) s.2))]) K ?_ ?_
      ·exact SP_ren [(19802,16802),(19803,1125)] (_,_) h1 ⟨rfl,rfl,rfl,rfl,rfl,tv⟩ ⟨rfl,rfl,rfl,rfl,tv⟩ rfl
      rintro n ⟨x186,x187⟩ h1
      rcases n with _ | n
      ·exact (nsome h1).elim
      replace h1 : poly_Splitter_Feed.r0 K ((List.replicate (Int.toNat p1) (0 : Int)).length : Int) p1 p2 p3 x86 x118 (poly_Splitter_Feed.l0 K ((List.replicate (Int.toNat p1) (0 : Int)).length : Int) p1 p2 p3 x86 x118 n) x186 x187 = some z1:=h1
      refine zr ?_
      refine zv 1 rfl ⟨⟨tv,tv,tv⟩,tv⟩ ?_
      refine ze ?_
      refine TC_seq ?_
      refine TC_cond rfl (fun hb=>?_) (fun hb=>?_)
      ·replace h1:=bif_t h1 hb
       refine TC_skip ?_
       refine TE_go ?_
       refine TC_seq ?_
       refine TC_blk ?_
       refine zr ?_
       refine zv 2 rfl ⟨tv,tv,tv⟩ ?_
       refine zn ?_
       refine zv 1 rfl ⟨tv,tv⟩ ?_
       refine ze ?_
       refine TC_seq ?_
       refine zr ?_
       refine zv 3 rfl ⟨tv,⟨tv,tv⟩,tv,tv⟩ ?_
       refine ze ?_
       obtain ⟨z2,h2,h1⟩:=bnd h1
       refine TC_cut (α:=Int) (fun s=>z2 = s) (fun s=>[(0,.p 0 0),(8,.sl 21502),(13,.sl 21503),(14,.int .i64 x186),(15,.int .i64 s),(127,.int .i64 ((List.replicate (Int.toNat p1) (0 : Int)).length : Int)),(128,.int .i64 x186)]) (fun s=>[(0,some (.cells [.int .i64 p1,.im (.slice (.int .i16)) p2,.im (.slice (.int .i16)) p3,.sl 1])),(1,some (.rows (.int .i64) x86)),(21502,some (.rows (.int .i64) x118)),(21503,some (.rows (.int .i32) x187))]) ?_ ?_
       ·refine TC_blk ?_
        refine TC_loop (α:=Int × Int) (fun n s=>poly_Splitter_Feed.l1 K x186 ((List.replicate (Int.toNat p1) (0 : Int)).length : Int) (x118.length : Int) p1 p2 p3 x86 x118 x187 n s.1 s.2 = some z2) (fun s=>[(0,.p 0 0),(8,.sl 21702),(13,.sl 21703),(14,.int .i64 x186),(15,.int .i64 s.1),(127,.int .i64 ((List.replicate (Int.toNat p1) (0 : Int)).length : Int)),(128,.int .i64 x186),(131,.sl 21702),(132,.int .i64 (x118.length : Int)),(133,.int .i64 s.2)]) (fun s=>[(0,some (.cells [.int .i64 p1,.im (.slice (.int .i16)) p2,.im (.slice (.int .i16)) p3,.sl 1])),(1,some (.rows (.int .i64) x86)),(21702,some (.rows (.int .i64) x118)),(21703,some (.rows (.int .i32) x187))]) K ?_ ?_
        ·exact SP_ren [(21702,19802),(21703,19803)] (_,_) h2 ⟨rfl,rfl,rfl,rfl,rfl,rfl,rfl,rfl,rfl,rfl,tv⟩ ⟨rfl,rfl,rfl,rfl,tv⟩ rfl
        rintro n ⟨x237,x238⟩ h2
        rcases n with _ | n
        ·exact (nsome h2).elim
        replace h2 : poly_Splitter_Feed.r1 K x186 ((List.replicate (Int.toNat p1) (0 : Int)).length : Int) (x118.length : Int) p1 p2 p3 x86 x118 x187 (poly_Splitter_Feed.l1 K x186 ((List.replicate (Int.toNat p1) (0 : Int)).length : Int) (x118.length : Int) p1 p2 p3 x86 x118 x187 n) x237 x238 = some z2:=h2
        refine zr ?_
        refine zv 1 rfl ⟨⟨tv,tv,tv⟩,tv⟩ ?_
        refine ze ?_
        refine TC_seq ?_
        refine TC_cond rfl (fun hb=>?_) (fun hb=>?_)
        ·replace h2:=bif_t h2 hb
         refine TC_skip ?_
         refine TE_go ?_
         refine TC_seq ?_
         refine TC_blk ?_
         refine zr ?_
         obtain ⟨g,h2⟩:=gd_t h2
         refine zv 5 rfl ⟨tv,⟨tv,tv,g.1,g.2.1⟩,⟨tv,g.2.2⟩,tv,tv,tv⟩ ?_
         refine ze ?_
         refine TC_renw (A':=[(0,.p 0 0),(8,.sl 21702),(13,.sl 21703),(14,.int .i64 _),(15,.int .i64 _),(16,.int .i64 _),(17,.int .i64 _),(127,.int .i64 _),(128,.int .i64 _),(131,.sl 21702),(132,.int .i64 _),(133,.int .i64 _)]) (L':=[(0,some (.cells [.int .i64 _,.im (.slice (.int .i16)) _,.im (.slice (.int .i16)) _,.sl 1])),(1,some (.rows (.int .i64) _)),(21702,some (.rows (.int .i64) _)),(21703,some (.rows (.int .i32) _))]) [] ⟨rfl,rfl,rfl,rfl,rfl,rfl,rfl,rfl,rfl,rfl,rfl,rfl,tv⟩ ⟨rfl,rfl,rfl,rfl,tv⟩ rfl ?_
         refine zd [[],[],[],[2],[3,2],[],[5],[6,5],[],[8],[],[10],[11,10],[12,11,10],[13,12,11,10],[14,13,12,11,10,9,8],[15,14,13,12,11,10,9,8,7,6,5,4,3,2],[16,15,14,13,12,11,10,9,8,7,6,5,4,3,2,1],[17,16,15,14,13,12,11,10,9,8,7,6,5,4,3,2,1,0],[18,17,16,15,14,13,12,11,10,9,8,7,6,5,4,3,2,1,0]] [[],[],[],[],[],[],[],[],[],[],[],[],[],[],[],[],[],[],[],[]] [[],[],[],[],[],[],[],[],[],[],[],[],[],[],[],[],[],[],[],[]] [[],[],[],[],[],[],[],[],[],[],[],[],[],[],[],[],[],[],[],[]] (by kernel_rfl) (by kernel_rfl) ?_
         refine zj 1 rfl rfl rfl tv ?_
         refine zj 2 rfl rfl rfl tv ?_
         refine zj 3 rfl rfl rfl tv ?_
         refine zj 4 rfl rfl rfl tv ?_
         refine zj 5 rfl rfl rfl tv ?_
         refine zj 6 rfl rfl rfl tv ?_
         refine zj 7 rfl rfl rfl ⟨tv,tv,tv⟩ ?_
         refine zj 8 rfl rfl rfl ⟨tv,tv,tv⟩ ?_
         refine zj 9 rfl rfl rfl tv ?_
         refine zj 10 rfl rfl rfl ⟨tv,tv,tv⟩ ?_
         refine zj 11 rfl rfl rfl tv ?_
         refine zj 12 rfl rfl rfl tv ?_
         refine zj 13 rfl rfl rfl tv ?_
         refine zj 14 rfl rfl rfl tv ?_
         refine zj 15 rfl rfl rfl ⟨tv,tv⟩ ?_
         refine zj 16 rfl rfl rfl ⟨tv,tv,tv⟩ ?_
         obtain ⟨r250,hr,h2⟩:=bnd h2
         refine AJR_callS 17 rfl (Nat.le_of_ble_eq_true rfl) [(0,0),(1,1)] rfl (poly_bands_wave.ok0 hr) poly_bands_wave.fnb rfl ⟨tv,⟨tv,⟨tv,⟨tv,tv⟩⟩⟩⟩ rfl ⟨.inr rfl,.inr rfl,tv⟩ rfl ⟨⟨rfl,rfl⟩,⟨rfl,rfl⟩,tv⟩ ?_
         refine zj 18 rfl rfl rfl ⟨tv,tv,tv⟩ ?_
         refine zj 19 rfl rfl rfl ⟨tv,tv,tv⟩ ?_
         refine zj 20 rfl rfl rfl tv ?_
         refine AJR_end rfl rfl rfl ?_
         refine tbn ?_
         refine zt ?_
         refine zv 2 rfl ⟨⟨tv,tv,tv⟩,tv,tv⟩ ?_
         refine zm ?_
         exact TE_nextr [(21702,21702),(21703,21703)] n (zs n) (_,_) h2 ⟨rfl,rfl,rfl,rfl,rfl,rfl,rfl,rfl,rfl,rfl,tv⟩ ⟨rfl,rfl,rfl,rfl,tv⟩ rfl
        ·replace h2:=bif_f h2 hb
         refine TC_exit ?_
         refine tsx ?_
         refine tsx ?_
         refine tbe ?_
         obtain rfl:=sinj h2
         refine tsn ?_
         exact SP_ren [(21502,21702),(21503,21703)] _ rfl ⟨rfl,rfl,rfl,rfl,rfl,rfl,rfl,tv⟩ ⟨rfl,rfl,rfl,rfl,tv⟩ rfl
       ·rintro x229 hz
        obtain rfl:=hz.symm
        refine zt ?_
        refine zv 10 rfl ⟨tv,tv,tv,tv,tv,tv,tv,⟨tv,tv⟩,⟨tv,tv,(by decide)⟩,⟨tv,tv,tv⟩,tv⟩ ?_
        obtain ⟨r232,hr,h1⟩:=bnd h1
        refine TL_callB [] (poly_rounded.ok0 hr) poly_rounded.fnb rfl ⟨tv,⟨tv,⟨tv,tv⟩⟩⟩ rfl tv rfl ?_
        obtain ⟨g,h1⟩:=gd_t h1
        refine zv 3 rfl ⟨tv,⟨tv,tv,g.1,g.2.1⟩,⟨tv,tv,g.2.2⟩,tv⟩ ?_
        refine TL_end ?_
        refine tbn ?_
        refine zt ?_
        refine zv 2 rfl ⟨⟨tv,tv,tv⟩,tv,tv⟩ ?_
        refine zm ?_
        exact TE_nextr [(19802,21502),(19803,21503)] n (zs n) (_,_) h1 ⟨rfl,rfl,rfl,rfl,rfl,tv⟩ ⟨rfl,rfl,rfl,rfl,tv⟩ rfl
      ·replace h1:=bif_f h1 hb
       refine TC_exit ?_
       refine tsx ?_
       refine tsx ?_
       refine tbe ?_
       obtain rfl:=sinj h1
       refine tsn ?_
       exact SP_ren [(18802,19803)] _ rfl ⟨rfl,tv⟩ ⟨rfl,rfl,rfl,tv⟩ rfl
     ·rintro x165 hz
      obtain rfl:=hz.symm
      refine zg ?_
      refine zv 3 rfl ⟨tv,tv,tv,tv⟩ ?_
      refine ze ?_
      refine TC_ret ?_
      refine TE_frz 18802 rfl ?_
      obtain rfl:=sinj h0
      exact TE_ret env rfl tv ⟨.inr rfl,.inr rfl,tv⟩
theorem poly_Splitter_Feed.ok0 {K : Nat} {p0 : List Int} {p1 : Int} {p2 p3 p4 q0 : List Int} {q1 : Int} {q2 : List Int} (h0 : poly_Splitter_Feed K p0 p1 p2 p3 p4 = some (q0,q1,q2)) : Fn Tryz.prog 70 [.p 0 0,.im (.slice (.int .i16)) p0] [(0,some (.cells [.int .i64 p1,.im (.slice (.int .i16)) p2,.im (.slice (.int .i16)) p3,.sl 1])),(1,some (.rows (.int .i64) p4))] (.tup [.im (.slice (.int .i32)) q0,.int .i64 q1]) [(0,some (.cells [.int .i64 p1,.im (.slice (.int .i16)) p2,.im (.slice (.int .i16)) p3,.sl 1])),(1,some (.rows (.int .i64) q2))]:=poly_Splitter_Feed.ok h0
theorem poly_Splitter_Feed.fnb : fnb Tryz.prog 70 = true:=fnb_of Tryz.func70 rfl
def subband_fits_1_1.res (_p0 : List Int) (_p1 _p2 _p3 _p4 _p5 _p6 _p7 _p8 _p9 _p10 : Int) : Bool → MV
 | q0=>.bool q0
def subband_fits_1_1.out (_p0 : List Int) (p1 p2 p3 p4 p5 p6 p7 p8 p9 p10 : Int) : Bool → List (Nat × Option MObj)
 | _=>[(0,some (.cells [.int .i64 p1,.int .i64 p2,.int .i64 p3,.int .i64 p4,.int .i64 p5,.int .i64 p6,.int .i64 p7,.int .i64 p8,.int .i64 p9,.int .i64 p10]))]
theorem subband_fits_1_1.ok {K : Nat} {p0 : List Int} {p1 p2 p3 p4 p5 p6 p7 p8 p9 p10 : Int} {r : Bool} (h0 : subband_fits_1_1 K p0 p1 p2 p3 p4 p5 p6 p7 p8 p9 p10 = some r) : Fn Tryz.prog 133 [.im (.slice (.int .i32)) p0,.p 0 0] [(0,some (.cells [.int .i64 p1,.int .i64 p2,.int .i64 p3,.int .i64 p4,.int .i64 p5,.int .i64 p6,.int .i64 p7,.int .i64 p8,.int .i64 p9,.int .i64 p10]))] (subband_fits_1_1.res p0 p1 p2 p3 p4 p5 p6 p7 p8 p9 p10 r) (subband_fits_1_1.out p0 p1 p2 p3 p4 p5 p6 p7 p8 p9 p10 r):=by
 refine Fn_of Tryz.func133 rfl (Nat.le_of_ble_eq_true rfl) fun Γ=>?_
 refine zr ?_
 refine zv 1 rfl ⟨tv,tv⟩ ?_
 refine zn ?_
 refine zv 6 rfl ⟨tv,⟨tv,tv⟩,tv,⟨tv,tv⟩,⟨tv,tv,tv⟩,tv,tv⟩ ?_
 refine ze ?_
 refine TC_ret ?_
 obtain rfl:=sinj h0
 exact TE_ret env rfl tv ⟨.inr rfl,tv⟩
theorem subband_fits_1_1.ok0 {K : Nat} {p0 : List Int} {p1 p2 p3 p4 p5 p6 p7 p8 p9 p10 : Int} {q0 : Bool} (h0 : subband_fits_1_1 K p0 p1 p2 p3 p4 p5 p6 p7 p8 p9 p10 = some q0) : Fn Tryz.prog 133 [.im (.slice (.int .i32)) p0,.p 0 0] [(0,some (.cells [.int .i64 p1,.int .i64 p2,.int .i64 p3,.int .i64 p4,.int .i64 p5,.int .i64 p6,.int .i64 p7,.int .i64 p8,.int .i64 p9,.int .i64 p10]))] (.bool q0) [(0,some (.cells [.int .i64 p1,.int .i64 p2,.int .i64 p3,.int .i64 p4,.int .i64 p5,.int .i64 p6,.int .i64 p7,.int .i64 p8,.int .i64 p9,.int .i64 p10]))]:=subband_fits_1_1.ok h0
theorem subband_fits_1_1.fnb : fnb Tryz.prog 133 = true:=fnb_of Tryz.func133 rfl
def subband_shaped_int32_1.res (_p0 : List Int) (_p1 _p2 _p3 _p4 _p5 _p6 _p7 _p8 _p9 _p10 : Int) : Bool → MV
 | q0=>.bool q0
def subband_shaped_int32_1.out (_p0 : List Int) (p1 p2 p3 p4 p5 p6 p7 p8 p9 p10 : Int) : Bool → List (Nat × Option MObj)
 | _=>[(0,some (.cells [.fn 133 [.p 1 0]])),(1,some (.cells [.int .i64 p1,.int .i64 p2,.int .i64 p3,.int .i64 p4,.int .i64 p5,.int .i64 p6,.int .i64 p7,.int .i64 p8,.int .i64 p9,.int .i64 p10]))]
theorem subband_shaped_int32_1.ok {K : Nat} {p0 : List Int} {p1 p2 p3 p4 p5 p6 p7 p8 p9 p10 : Int} {r : Bool} (h0 : subband_shaped_int32_1 K p0 p1 p2 p3 p4 p5 p6 p7 p8 p9 p10 = some r) : Fn Tryz.prog 176 [.im (.slice (.int .i32)) p0,.p 0 0] [(0,some (.cells [.fn 133 [.p 1 0]])),(1,some (.cells [.int .i64 p1,.int .i64 p2,.int .i64 p3,.int .i64 p4,.int .i64 p5,.int .i64 p6,.int .i64 p7,.int .i64 p8,.int .i64 p9,.int .i64 p10]))] (subband_shaped_int32_1.res p0 p1 p2 p3 p4 p5 p6 p7 p8 p9 p10 r) (subband_shaped_int32_1.out p0 p1 p2 p3 p4 p5 p6 p7 p8 p9 p10 r):=by
 refine Fn_of Tryz.func176 rfl (Nat.le_of_ble_eq_true rfl) fun Γ=>?_
 unfold subband_shaped_int32_1 at h0
 refine zr ?_
 refine zv 1 rfl ⟨tv,tv⟩ ?_
 refine zn ?_
 refine zv 2 rfl ⟨⟨tv,tv⟩,tv,tv⟩ ?_
 obtain ⟨r2,hr,h0⟩:=bnd h0
 refine TL_callB [(0,1)] (subband_fits_1_1.ok0 hr) subband_fits_1_1.fnb rfl ⟨tv,⟨tv,tv⟩⟩ rfl ⟨.inr rfl,tv⟩ rfl ?_
 refine zv 2 rfl ⟨tv,tv,tv⟩ ?_
 refine ze ?_
 refine TC_ret ?_
 obtain rfl:=sinj h0
 exact TE_ret env rfl tv ⟨.inr rfl,.inr rfl,tv⟩
theorem subband_shaped_int32_1.ok0 {K : Nat} {p0 : List Int} {p1 p2 p3 p4 p5 p6 p7 p8 p9 p10 : Int} {q0 : Bool} (h0 : subband_shaped_int32_1 K p0 p1 p2 p3 p4 p5 p6 p7 p8 p9 p10 = some q0) : Fn Tryz.prog 176 [.im (.slice (.int .i32)) p0,.p 0 0] [(0,some (.cells [.fn 133 [.p 1 0]])),(1,some (.cells [.int .i64 p1,.int .i64 p2,.int .i64 p3,.int .i64 p4,.int .i64 p5,.int .i64 p6,.int .i64 p7,.int .i64 p8,.int .i64 p9,.int .i64 p10]))] (.bool q0) [(0,some (.cells [.fn 133 [.p 1 0]])),(1,some (.cells [.int .i64 p1,.int .i64 p2,.int .i64 p3,.int .i64 p4,.int .i64 p5,.int .i64 p6,.int .i64 p7,.int .i64 p8,.int .i64 p9,.int .i64 p10]))]:=subband_shaped_int32_1.ok h0
theorem subband_shaped_int32_1.fnb : fnb Tryz.prog 176 = true:=fnb_of Tryz.func176 rfl
def slices_IndexFunc_int32_int32.res (_p0 : List (List Int)) (_p1 _p2 _p3 _p4 _p5 _p6 _p7 _p8 _p9 _p10 : Int) : Int → MV
 | q0=>.int .i64 q0
def slices_IndexFunc_int32_int32.out (_p0 : List (List Int)) (p1 p2 p3 p4 p5 p6 p7 p8 p9 p10 : Int) : Int → List (Nat × Option MObj)
 | _=>[(0,some (.cells [.fn 133 [.p 1 0]])),(1,some (.cells [.int .i64 p1,.int .i64 p2,.int .i64 p3,.int .i64 p4,.int .i64 p5,.int .i64 p6,.int .i64 p7,.int .i64 p8,.int .i64 p9,.int .i64 p10]))]
theorem slices_IndexFunc_int32_int32.ok {K : Nat} {p0 : List (List Int)} {p1 p2 p3 p4 p5 p6 p7 p8 p9 p10 r : Int} (h0 : slices_IndexFunc_int32_int32 K p0 p1 p2 p3 p4 p5 p6 p7 p8 p9 p10 = some r) : Fn Tryz.prog 199 [.im (.slice (.slice (.int .i32))) p0,.fn 176 [.p 0 0]] [(0,some (.cells [.fn 133 [.p 1 0]])),(1,some (.cells [.int .i64 p1,.int .i64 p2,.int .i64 p3,.int .i64 p4,.int .i64 p5,.int .i64 p6,.int .i64 p7,.int .i64 p8,.int .i64 p9,.int .i64 p10]))] (slices_IndexFunc_int32_int32.res p0 p1 p2 p3 p4 p5 p6 p7 p8 p9 p10 r) (slices_IndexFunc_int32_int32.out p0 p1 p2 p3 p4 p5 p6 p7 p8 p9 p10 r):=by
 refine Fn_of Tryz.func199 rfl (Nat.le_of_ble_eq_true rfl) fun Γ=>?_
 unfold slices_IndexFunc_int32_int32 at h0
 refine zr ?_
 refine zv 1 rfl ⟨tv,tv⟩ ?_
 refine ze ?_
 refine TC_seq ?_
 refine zr ?_
 refine zv 3 rfl ⟨tv,⟨tv,tv⟩,tv,tv⟩ ?_
 refine ze ?_
 obtain ⟨z1,h1,h0⟩:=bnd h0
 refine TC_cut (α:=Unit) (fun _=>z1 = .inl ()) (fun _=>[]) (fun _=>[(0,some (.cells [.fn 133 [.p 1 0]])),(1,some (.cells [.int .i64 p1,.int .i64 p2,.int .i64 p3,.int .i64 p4,.int .i64 p5,.int .i64 p6,.int .i64 p7,.int .i64 p8,.int .i64 p9,.int .i64 p10]))]) ?_ ?_
 ·refine TC_blk ?_
  refine TC_loop (α:=Int) (fun n s=>slices_IndexFunc_int32_int32.l0 K p0 (p0.length : Int) p1 p2 p3 p4 p5 p6 p7 p8 p9 p10 n s = some z1) (fun s=>[(0,.im (.slice (.slice (.int .i32))) p0),(1,.fn 176 [.p 0 0]),(7,.int .i64 (p0.length : Int)),(8,.int .i64 s)]) (fun s=>[(0,some (.cells [.fn 133 [.p 1 0]])),(1,some (.cells [.int .i64 p1,.int .i64 p2,.int .i64 p3,.int .i64 p4,.int .i64 p5,.int .i64 p6,.int .i64 p7,.int .i64 p8,.int .i64 p9,.int .i64 p10]))]) K ?_ ?_
  ·exact SP_ren [] _ h1 ⟨rfl,rfl,rfl,rfl,tv⟩ ⟨rfl,rfl,tv⟩ rfl
  rintro n x15 h1
  rcases n with _ | n
  ·exact (nsome h1).elim
  replace h1 : slices_IndexFunc_int32_int32.r0 K p0 (p0.length : Int) p1 p2 p3 p4 p5 p6 p7 p8 p9 p10 (slices_IndexFunc_int32_int32.l0 K p0 (p0.length : Int) p1 p2 p3 p4 p5 p6 p7 p8 p9 p10 n) x15 = some z1:=h1
  refine zr ?_
  refine zv 1 rfl ⟨⟨tv,tv,tv⟩,tv⟩ ?_
  refine ze ?_
  refine TC_seq ?_
  refine TC_cond rfl (fun hb=>?_) (fun hb=>?_)
  ·replace h1:=bif_t h1 hb
   refine TC_skip ?_
   refine TE_go ?_
   refine TC_seq ?_
   refine TC_blk ?_
   refine zr ?_
   refine zv 2 rfl ⟨tv,tv,tv⟩ ?_
   refine zn ?_
   obtain ⟨g,h1⟩:=gd_t h1
   refine zv 5 rfl ⟨tv,tv,tv,⟨tv,tv,g.1,g.2⟩,⟨tv,tv⟩,tv⟩ ?_
   obtain ⟨r22,hr,h1⟩:=bnd h1
   refine TL_callB [(0,0),(1,1)] (subband_shaped_int32_1.ok0 hr) subband_shaped_int32_1.fnb rfl ⟨tv,⟨tv,tv⟩⟩ rfl ⟨.inr rfl,.inr rfl,tv⟩ rfl ?_
   refine ze ?_
   refine TC_cond rfl (fun hb=>?_) (fun hb=>?_)
   ·replace h1:=bif_t h1 hb
    refine zr ?_
    refine zv 2 rfl ⟨tv,tv,tv⟩ ?_
    refine ze ?_
    refine TC_ret ?_
    refine tbr ?_
    refine tsr ?_
    refine tsr ?_
    refine tbr ?_
    refine tsr ?_
    refine tsr ?_
    obtain rfl:=sinj h1
    obtain rfl:=sinj h0
    exact TE_ret env rfl tv ⟨.inr rfl,.inr rfl,tv⟩
   ·replace h1:=bif_f h1 hb
    refine TC_skip ?_
    refine tbn ?_
    refine zt ?_
    refine zv 2 rfl ⟨⟨tv,tv,tv⟩,tv,tv⟩ ?_
    refine zm ?_
    exact TE_nextr [] n (zs n) _ h1 ⟨rfl,rfl,rfl,rfl,tv⟩ ⟨rfl,rfl,tv⟩ rfl
  ·replace h1:=bif_f h1 hb
   refine TC_exit ?_
   refine tsx ?_
   refine tsx ?_
   refine tbe ?_
   obtain rfl:=sinj h1
   refine tsn ?_
   exact SP_ren [] () rfl tv ⟨rfl,rfl,tv⟩ rfl
 ·rintro ⟨⟩ rfl
  refine zg ?_
  refine zv 1 rfl ⟨tv,tv⟩ ?_
  refine ze ?_
  refine TC_ret ?_
  obtain rfl:=sinj h0
  exact TE_ret env rfl tv ⟨.inr rfl,.inr rfl,tv⟩
theorem slices_IndexFunc_int32_int32.ok0 {K : Nat} {p0 : List (List Int)} {p1 p2 p3 p4 p5 p6 p7 p8 p9 p10 q0 : Int} (h0 : slices_IndexFunc_int32_int32 K p0 p1 p2 p3 p4 p5 p6 p7 p8 p9 p10 = some q0) : Fn Tryz.prog 199 [.im (.slice (.slice (.int .i32))) p0,.fn 176 [.p 0 0]] [(0,some (.cells [.fn 133 [.p 1 0]])),(1,some (.cells [.int .i64 p1,.int .i64 p2,.int .i64 p3,.int .i64 p4,.int .i64 p5,.int .i64 p6,.int .i64 p7,.int .i64 p8,.int .i64 p9,.int .i64 p10]))] (.int .i64 q0) [(0,some (.cells [.fn 133 [.p 1 0]])),(1,some (.cells [.int .i64 p1,.int .i64 p2,.int .i64 p3,.int .i64 p4,.int .i64 p5,.int .i64 p6,.int .i64 p7,.int .i64 p8,.int .i64 p9,.int .i64 p10]))]:=slices_IndexFunc_int32_int32.ok h0
theorem slices_IndexFunc_int32_int32.fnb : fnb Tryz.prog 199 = true:=fnb_of Tryz.func199 rfl
def slices_ContainsFunc_int32_int32.res (_p0 : List (List Int)) (_p1 _p2 _p3 _p4 _p5 _p6 _p7 _p8 _p9 _p10 : Int) : Bool → MV
 | q0=>.bool q0
def slices_ContainsFunc_int32_int32.out (_p0 : List (List Int)) (p1 p2 p3 p4 p5 p6 p7 p8 p9 p10 : Int) : Bool → List (Nat × Option MObj)
 | _=>[(0,some (.cells [.fn 133 [.p 1 0]])),(1,some (.cells [.int .i64 p1,.int .i64 p2,.int .i64 p3,.int .i64 p4,.int .i64 p5,.int .i64 p6,.int .i64 p7,.int .i64 p8,.int .i64 p9,.int .i64 p10]))]
theorem slices_ContainsFunc_int32_int32.ok {K : Nat} {p0 : List (List Int)} {p1 p2 p3 p4 p5 p6 p7 p8 p9 p10 : Int} {r : Bool} (h0 : slices_ContainsFunc_int32_int32 K p0 p1 p2 p3 p4 p5 p6 p7 p8 p9 p10 = some r) : Fn Tryz.prog 175 [.im (.slice (.slice (.int .i32))) p0,.fn 176 [.p 0 0]] [(0,some (.cells [.fn 133 [.p 1 0]])),(1,some (.cells [.int .i64 p1,.int .i64 p2,.int .i64 p3,.int .i64 p4,.int .i64 p5,.int .i64 p6,.int .i64 p7,.int .i64 p8,.int .i64 p9,.int .i64 p10]))] (slices_ContainsFunc_int32_int32.res p0 p1 p2 p3 p4 p5 p6 p7 p8 p9 p10 r) (slices_ContainsFunc_int32_int32.out p0 p1 p2 p3 p4 p5 p6 p7 p8 p9 p10 r):=by
 refine Fn_of Tryz.func175 rfl (Nat.le_of_ble_eq_true rfl) fun Γ=>?_
 refine zr ?_
 refine zv 1 rfl ⟨tv,tv⟩ ?_
 refine zn ?_
 refine zv 2 rfl ⟨tv,tv,tv⟩ ?_
 obtain ⟨r2,hr,h0⟩:=bnd h0
 refine TL_callB [(0,0),(1,1)] (slices_IndexFunc_int32_int32.ok0 hr) slices_IndexFunc_int32_int32.fnb rfl ⟨tv,⟨tv,⟨tv,tv⟩⟩⟩ rfl ⟨.inr rfl,.inr rfl,tv⟩ rfl ?_
 refine zv 2 rfl ⟨⟨tv,tv,tv⟩,tv,tv⟩ ?_
 refine ze ?_
 refine TC_ret ?_
 obtain rfl:=sinj h0
 exact TE_ret env rfl tv ⟨.inr rfl,.inr rfl,tv⟩
theorem slices_ContainsFunc_int32_int32.ok0 {K : Nat} {p0 : List (List Int)} {p1 p2 p3 p4 p5 p6 p7 p8 p9 p10 : Int} {q0 : Bool} (h0 : slices_ContainsFunc_int32_int32 K p0 p1 p2 p3 p4 p5 p6 p7 p8 p9 p10 = some q0) : Fn Tryz.prog 175 [.im (.slice (.slice (.int .i32))) p0,.fn 176 [.p 0 0]] [(0,some (.cells [.fn 133 [.p 1 0]])),(1,some (.cells [.int .i64 p1,.int .i64 p2,.int .i64 p3,.int .i64 p4,.int .i64 p5,.int .i64 p6,.int .i64 p7,.int .i64 p8,.int .i64 p9,.int .i64 p10]))] (.bool q0) [(0,some (.cells [.fn 133 [.p 1 0]])),(1,some (.cells [.int .i64 p1,.int .i64 p2,.int .i64 p3,.int .i64 p4,.int .i64 p5,.int .i64 p6,.int .i64 p7,.int .i64 p8,.int .i64 p9,.int .i64 p10]))]:=slices_ContainsFunc_int32_int32.ok h0
theorem slices_ContainsFunc_int32_int32.fnb : fnb Tryz.prog 175 = true:=fnb_of Tryz.func175 rfl
def subband_shaped_int32.res (_p0 : List (List Int)) (_p1 _p2 _p3 _p4 _p5 _p6 _p7 _p8 _p9 _p10 _p11 : Int) : Bool → MV
 | q0=>.bool q0
def subband_shaped_int32.out (_p0 : List (List Int)) (_p1 p2 p3 p4 p5 p6 p7 p8 p9 p10 p11 : Int) : Bool → List (Nat × Option MObj)
 | _=>[(0,some (.cells [.int .i64 p2,.int .i64 p3,.int .i64 p4,.int .i64 p5,.int .i64 p6,.int .i64 p7,.int .i64 p8,.int .i64 p9,.int .i64 p10,.int .i64 p11]))]
theorem subband_shaped_int32.ok {K : Nat} {p0 : List (List Int)} {p1 p2 p3 p4 p5 p6 p7 p8 p9 p10 p11 : Int} {r : Bool} (h0 : subband_shaped_int32 K p0 p1 p2 p3 p4 p5 p6 p7 p8 p9 p10 p11 = some r) : Fn Tryz.prog 132 [.im (.slice (.slice (.int .i32))) p0,.int .i64 p1,.fn 133 [.p 0 0]] [(0,some (.cells [.int .i64 p2,.int .i64 p3,.int .i64 p4,.int .i64 p5,.int .i64 p6,.int .i64 p7,.int .i64 p8,.int .i64 p9,.int .i64 p10,.int .i64 p11]))] (subband_shaped_int32.res p0 p1 p2 p3 p4 p5 p6 p7 p8 p9 p10 p11 r) (subband_shaped_int32.out p0 p1 p2 p3 p4 p5 p6 p7 p8 p9 p10 p11 r):=by
 refine Fn_of Tryz.func132 rfl (Nat.le_of_ble_eq_true rfl) fun Γ=>?_
 refine zr ?_
 refine zv 2 rfl ⟨tv,tv,tv⟩ ?_
 refine ze ?_
 refine TC_seq ?_
 obtain ⟨z1,h1,h0⟩:=bnd h0
 refine TC_cut (α:=Bool) (fun s=>z1 = s) (fun s=>[(6,.bool s)]) (fun s=>[(0,some (.cells [.int .i64 p2,.int .i64 p3,.int .i64 p4,.int .i64 p5,.int .i64 p6,.int .i64 p7,.int .i64 p8,.int .i64 p9,.int .i64 p10,.int .i64 p11]))]) ?_ ?_
 ·refine TC_reg ?_
  refine zv 5 rfl ⟨tv,⟨tv,tv⟩,tv,⟨tv,tv,tv⟩,tv,tv⟩ ?_
  refine TL_split 11 rfl (fun hb=>?_) (fun hb=>?_)
  ·replace h1:=bif_t h1 hb
   refine TL_gt rfl rfl rfl rfl ?_
   refine zv 1 rfl ⟨tv,tv⟩ ?_
   refine TL_gt rfl rfl rfl rfl ?_
   refine zv 1 rfl ⟨⟨tv,tv⟩,tv⟩ ?_
   refine TL_gt rfl rfl rfl rfl ?_
   obtain ⟨r6,hr,h1⟩:=bnd h1
   refine TL_callB [(0,1005),(1,0)] (slices_ContainsFunc_int32_int32.ok0 hr) slices_ContainsFunc_int32_int32.fnb rfl ⟨tv,⟨tv,⟨tv,tv⟩⟩⟩ rfl ⟨.inr rfl,.inr rfl,tv⟩ rfl ?_
   refine TL_gt rfl rfl rfl rfl ?_
   refine zv 3 rfl ⟨tv,⟨tv,tv,tv⟩,tv,tv⟩ ?_
   refine TL_end ?_
   obtain rfl:=sinj h1
   refine tsn ?_
   exact SP_ren [] _ rfl ⟨rfl,tv⟩ ⟨rfl,tv⟩ rfl
  ·replace h1:=bif_f h1 hb
   refine TL_gf (.bool false) rfl rfl rfl rfl rfl (by decide) ?_
   refine TL_gf (.bool false) rfl rfl rfl rfl rfl (by decide) ?_
   refine TL_gf (.bool false) rfl rfl rfl rfl rfl (by decide) ?_
   refine TL_gf (.bool false) rfl rfl rfl rfl rfl (by decide) ?_
   refine zv 2 rfl ⟨⟨tv,fun e=>e,tv⟩,tv,tv⟩ ?_
   refine TL_end ?_
   obtain rfl:=sinj h1
   refine tsn ?_
   exact SP_ren [] _ rfl ⟨rfl,tv⟩ ⟨rfl,tv⟩ rfl
 ·rintro x4 hz
  obtain rfl:=hz.symm
  refine zu ?_
  obtain rfl:=sinj h0
  exact TE_ret env rfl tv ⟨.inr rfl,tv⟩
theorem subband_shaped_int32.ok0 {K : Nat} {p0 : List (List Int)} {p1 p2 p3 p4 p5 p6 p7 p8 p9 p10 p11 : Int} {q0 : Bool} (h0 : subband_shaped_int32 K p0 p1 p2 p3 p4 p5 p6 p7 p8 p9 p10 p11 = some q0) : Fn Tryz.prog 132 [.im (.slice (.slice (.int .i32))) p0,.int .i64 p1,.fn 133 [.p 0 0]] [(0,some (.cells [.int .i64 p2,.int .i64 p3,.int .i64 p4,.int .i64 p5,.int .i64 p6,.int .i64 p7,.int .i64 p8,.int .i64 p9,.int .i64 p10,.int .i64 p11]))] (.bool q0) [(0,some (.cells [.int .i64 p2,.int .i64 p3,.int .i64 p4,.int .i64 p5,.int .i64 p6,.int .i64 p7,.int .i64 p8,.int .i64 p9,.int .i64 p10,.int .i64 p11]))]:=subband_shaped_int32.ok h0
theorem subband_shaped_int32.fnb : fnb Tryz.prog 132 = true:=fnb_of Tryz.func132 rfl
def subband_fits_1.res (_p0 : List (List Int)) (_p1 _p2 _p3 _p4 _p5 _p6 _p7 _p8 _p9 _p10 : Int) : Bool → MV
 | q0=>.bool q0
def subband_fits_1.out (_p0 : List (List Int)) (p1 p2 p3 p4 p5 p6 p7 p8 p9 p10 : Int) : Bool → List (Nat × Option MObj)
 | _=>[(0,some (.cells [.int .i64 p1,.int .i64 p2,.int .i64 p3,.int .i64 p4,.int .i64 p5,.int .i64 p6,.int .i64 p7,.int .i64 p8,.int .i64 p9,.int .i64 p10]))]
theorem subband_fits_1.ok {K : Nat} {p0 : List (List Int)} {p1 p2 p3 p4 p5 p6 p7 p8 p9 p10 : Int} {r : Bool} (h0 : subband_fits_1 K p0 p1 p2 p3 p4 p5 p6 p7 p8 p9 p10 = some r) : Fn Tryz.prog 131 [.im (.slice (.slice (.int .i32))) p0,.p 0 0] [(0,some (.cells [.int .i64 p1,.int .i64 p2,.int .i64 p3,.int .i64 p4,.int .i64 p5,.int .i64 p6,.int .i64 p7,.int .i64 p8,.int .i64 p9,.int .i64 p10]))] (subband_fits_1.res p0 p1 p2 p3 p4 p5 p6 p7 p8 p9 p10 r) (subband_fits_1.out p0 p1 p2 p3 p4 p5 p6 p7 p8 p9 p10 r):=by
 refine Fn_of Tryz.func131 rfl (Nat.le_of_ble_eq_true rfl) fun Γ=>?_
 refine zr ?_
 refine zv 1 rfl ⟨tv,tv⟩ ?_
 refine zn ?_
 refine zv 4 rfl ⟨tv,tv,⟨tv,tv⟩,⟨tv,tv⟩,tv⟩ ?_
 obtain ⟨r2,hr,h0⟩:=bnd h0
 refine TL_callB [(0,0)] (subband_shaped_int32.ok0 hr) subband_shaped_int32.fnb rfl ⟨tv,⟨tv,⟨tv,⟨tv,tv⟩⟩⟩⟩ rfl ⟨.inr rfl,tv⟩ rfl ?_
 refine zv 1 rfl ⟨tv,tv⟩ ?_
 refine ze ?_
 refine TC_ret ?_
 obtain rfl:=sinj h0
 exact TE_ret env rfl tv ⟨.inr rfl,tv⟩
theorem subband_fits_1.ok0 {K : Nat} {p0 : List (List Int)} {p1 p2 p3 p4 p5 p6 p7 p8 p9 p10 : Int} {q0 : Bool} (h0 : subband_fits_1 K p0 p1 p2 p3 p4 p5 p6 p7 p8 p9 p10 = some q0) : Fn Tryz.prog 131 [.im (.slice (.slice (.int .i32))) p0,.p 0 0] [(0,some (.cells [.int .i64 p1,.int .i64 p2,.int .i64 p3,.int .i64 p4,.int .i64 p5,.int .i64 p6,.int .i64 p7,.int .i64 p8,.int .i64 p9,.int .i64 p10]))] (.bool q0) [(0,some (.cells [.int .i64 p1,.int .i64 p2,.int .i64 p3,.int .i64 p4,.int .i64 p5,.int .i64 p6,.int .i64 p7,.int .i64 p8,.int .i64 p9,.int .i64 p10]))]:=subband_fits_1.ok h0
theorem subband_fits_1.fnb : fnb Tryz.prog 131 = true:=fnb_of Tryz.func131 rfl
def subband_shaped_int32_1_2.res (_p0 : List (List Int)) (_p1 _p2 _p3 _p4 _p5 _p6 _p7 _p8 _p9 _p10 : Int) : Bool → MV
 | q0=>.bool q0
def subband_shaped_int32_1_2.out (_p0 : List (List Int)) (p1 p2 p3 p4 p5 p6 p7 p8 p9 p10 : Int) : Bool → List (Nat × Option MObj)
 | _=>[(0,some (.cells [.fn 131 [.p 1 0]])),(1,some (.cells [.int .i64 p1,.int .i64 p2,.int .i64 p3,.int .i64 p4,.int .i64 p5,.int .i64 p6,.int .i64 p7,.int .i64 p8,.int .i64 p9,.int .i64 p10]))]
theorem subband_shaped_int32_1_2.ok {K : Nat} {p0 : List (List Int)} {p1 p2 p3 p4 p5 p6 p7 p8 p9 p10 : Int} {r : Bool} (h0 : subband_shaped_int32_1_2 K p0 p1 p2 p3 p4 p5 p6 p7 p8 p9 p10 = some r) : Fn Tryz.prog 174 [.im (.slice (.slice (.int .i32))) p0,.p 0 0] [(0,some (.cells [.fn 131 [.p 1 0]])),(1,some (.cells [.int .i64 p1,.int .i64 p2,.int .i64 p3,.int .i64 p4,.int .i64 p5,.int .i64 p6,.int .i64 p7,.int .i64 p8,.int .i64 p9,.int .i64 p10]))] (subband_shaped_int32_1_2.res p0 p1 p2 p3 p4 p5 p6 p7 p8 p9 p10 r) (subband_shaped_int32_1_2.out p0 p1 p2 p3 p4 p5 p6 p7 p8 p9 p10 r):=by
 refine Fn_of Tryz.func174 rfl (Nat.le_of_ble_eq_true rfl) fun Γ=>?_
 refine zr ?_
 refine zv 1 rfl ⟨tv,tv⟩ ?_
 refine zn ?_
 refine zv 2 rfl ⟨⟨tv,tv⟩,tv,tv⟩ ?_
 obtain ⟨r2,hr,h0⟩:=bnd h0
 refine TL_callB [(0,1)] (subband_fits_1.ok0 hr) subband_fits_1.fnb rfl ⟨tv,⟨tv,tv⟩⟩ rfl ⟨.inr rfl,tv⟩ rfl ?_
 refine zv 2 rfl ⟨tv,tv,tv⟩ ?_
 refine ze ?_
 refine TC_ret ?_
 obtain rfl:=sinj h0
 exact TE_ret env rfl tv ⟨.inr rfl,.inr rfl,tv⟩
theorem subband_shaped_int32_1_2.ok0 {K : Nat} {p0 : List (List Int)} {p1 p2 p3 p4 p5 p6 p7 p8 p9 p10 : Int} {q0 : Bool} (h0 : subband_shaped_int32_1_2 K p0 p1 p2 p3 p4 p5 p6 p7 p8 p9 p10 = some q0) : Fn Tryz.prog 174 [.im (.slice (.slice (.int .i32))) p0,.p 0 0] [(0,some (.cells [.fn 131 [.p 1 0]])),(1,some (.cells [.int .i64 p1,.int .i64 p2,.int .i64 p3,.int .i64 p4,.int .i64 p5,.int .i64 p6,.int .i64 p7,.int .i64 p8,.int .i64 p9,.int .i64 p10]))] (.bool q0) [(0,some (.cells [.fn 131 [.p 1 0]])),(1,some (.cells [.int .i64 p1,.int .i64 p2,.int .i64 p3,.int .i64 p4,.int .i64 p5,.int .i64 p6,.int .i64 p7,.int .i64 p8,.int .i64 p9,.int .i64 p10]))]:=subband_shaped_int32_1_2.ok h0
theorem subband_shaped_int32_1_2.fnb : fnb Tryz.prog 174 = true:=fnb_of Tryz.func174 rfl
def slices_IndexFunc_int32_int32_2.res (_p0 : List (List (List Int))) (_p1 _p2 _p3 _p4 _p5 _p6 _p7 _p8 _p9 _p10 : Int) : Int → MV
 | q0=>.int .i64 q0
def slices_IndexFunc_int32_int32_2.out (_p0 : List (List (List Int))) (p1 p2 p3 p4 p5 p6 p7 p8 p9 p10 : Int) : Int → List (Nat × Option MObj)
 | _=>[(0,some (.cells [.fn 131 [.p 1 0]])),(1,some (.cells [.int .i64 p1,.int .i64 p2,.int .i64 p3,.int .i64 p4,.int .i64 p5,.int .i64 p6,.int .i64 p7,.int .i64 p8,.int .i64 p9,.int .i64 p10]))]
theorem slices_IndexFunc_int32_int32_2.ok {K : Nat} {p0 : List (List (List Int))} {p1 p2 p3 p4 p5 p6 p7 p8 p9 p10 r : Int} (h0 : slices_IndexFunc_int32_int32_2 K p0 p1 p2 p3 p4 p5 p6 p7 p8 p9 p10 = some r) : Fn Tryz.prog 198 [.im (.slice (.slice (.slice (.int .i32)))) p0,.fn 174 [.p 0 0]] [(0,some (.cells [.fn 131 [.p 1 0]])),(1,some (.cells [.int .i64 p1,.int .i64 p2,.int .i64 p3,.int .i64 p4,.int .i64 p5,.int .i64 p6,.int .i64 p7,.int .i64 p8,.int .i64 p9,.int .i64 p10]))] (slices_IndexFunc_int32_int32_2.res p0 p1 p2 p3 p4 p5 p6 p7 p8 p9 p10 r) (slices_IndexFunc_int32_int32_2.out p0 p1 p2 p3 p4 p5 p6 p7 p8 p9 p10 r):=by
 refine Fn_of Tryz.func198 rfl (Nat.le_of_ble_eq_true rfl) fun Γ=>?_
 refine zr ?_
 refine zv 1 rfl ⟨tv,tv⟩ ?_
 refine ze ?_
 refine TC_seq ?_
 refine zr ?_
 refine zv 3 rfl ⟨tv,⟨tv,tv⟩,tv,tv⟩ ?_
 refine ze ?_
 obtain ⟨z1,h1,h0⟩:=bnd h0
 refine TC_cut (α:=Unit) (fun _=>z1 = .inl ()) (fun _=>[]) (fun _=>[(0,some (.cells [.fn 131 [.p 1 0]])),(1,some (.cells [.int .i64 p1,.int .i64 p2,.int .i64 p3,.int .i64 p4,.int .i64 p5,.int .i64 p6,.int .i64 p7,.int .i64 p8,.int .i64 p9,.int .i64 p10]))]) ?_ ?_
 ·refine TC_blk ?_
  refine TC_loop (α:=Int) (fun n s=>slices_IndexFunc_int32_int32_2.l0 K p0 (p0.length : Int) p1 p2 p3 p4 p5 p6 p7 p8 p9 p10 n s = some z1) (fun s=>[(0,.im (.slice (.slice (.slice (.int .i32)))) p0),(1,.fn 174 [.p 0 0]),(7,.int .i64 (p0.length : Int)),(8,.int .i64 s)]) (fun s=>[(0,some (.cells [.fn 131 [.p 1 0]])),(1,some (.cells [.int .i64 p1,.int .i64 p2,.int .i64 p3,.int .i64 p4,.int .i64 p5,.int .i64 p6,.int .i64 p7,.int .i64 p8,.int .i64 p9,.int .i64 p10]))]) K ?_ ?_
  ·exact SP_ren [] _ h1 ⟨rfl,rfl,rfl,rfl,tv⟩ ⟨rfl,rfl,tv⟩ rfl
  rintro n x15 h1
  rcases n with _ | n
  ·exact (nsome h1).elim
  replace h1 : slices_IndexFunc_int32_int32_2.r0 K p0 (p0.length : Int) p1 p2 p3 p4 p5 p6 p7 p8 p9 p10 (slices_IndexFunc_int32_int32_2.l0 K p0 (p0.length : Int) p1 p2 p3 p4 p5 p6 p7 p8 p9 p10 n) x15 = some z1:=h1
  refine zr ?_
  refine zv 1 rfl ⟨⟨tv,tv,tv⟩,tv⟩ ?_
  refine ze ?_
  refine TC_seq ?_
  refine TC_cond rfl (fun hb=>?_) (fun hb=>?_)
  ·replace h1:=bif_t h1 hb
   refine TC_skip ?_
   refine TE_go ?_
   refine TC_seq ?_
   refine TC_blk ?_
   refine zr ?_
   refine zv 2 rfl ⟨tv,tv,tv⟩ ?_
   refine zn ?_
   obtain ⟨g,h1⟩:=gd_t h1
   refine zv 5 rfl ⟨tv,tv,tv,⟨tv,tv,g.1,g.2⟩,⟨tv,tv⟩,tv⟩ ?_
   obtain ⟨r22,hr,h1⟩:=bnd h1
   refine TL_callB [(0,0),(1,1)] (subband_shaped_int32_1_2.ok0 hr) subband_shaped_int32_1_2.fnb rfl ⟨tv,⟨tv,tv⟩⟩ rfl ⟨.inr rfl,.inr rfl,tv⟩ rfl ?_
   refine ze ?_
   refine TC_cond rfl (fun hb=>?_) (fun hb=>?_)
   ·replace h1:=bif_t h1 hb
    refine zr ?_
    refine zv 2 rfl ⟨tv,tv,tv⟩ ?_
    refine ze ?_
    refine TC_ret ?_
    refine tbr ?_
    refine tsr ?_
    refine tsr ?_
    refine tbr ?_
    refine tsr ?_
    refine tsr ?_
    obtain rfl:=sinj h1
    obtain rfl:=sinj h0
    exact TE_ret env rfl tv ⟨.inr rfl,.inr rfl,tv⟩
   ·replace h1:=bif_f h1 hb
    refine TC_skip ?_
    refine tbn ?_
    refine zt ?_
    refine zv 2 rfl ⟨⟨tv,tv,tv⟩,tv,tv⟩ ?_
    refine zm ?_
    exact TE_nextr [] n (zs n) _ h1 ⟨rfl,rfl,rfl,rfl,tv⟩ ⟨rfl,rfl,tv⟩ rfl
  ·replace h1:=bif_f h1 hb
   refine TC_exit ?_
   refine tsx ?_
   refine tsx ?_
   refine tbe ?_
   obtain rfl:=sinj h1
   refine tsn ?_
   exact SP_ren [] () rfl tv ⟨rfl,rfl,tv⟩ rfl
 ·rintro ⟨⟩ rfl
  refine zg ?_
  refine zv 1 rfl ⟨tv,tv⟩ ?_
  refine ze ?_
  refine TC_ret ?_
  obtain rfl:=sinj h0
  exact TE_ret env rfl tv ⟨.inr rfl,.inr rfl,tv⟩
theorem slices_IndexFunc_int32_int32_2.ok0 {K : Nat} {p0 : List (List (List Int))} {p1 p2 p3 p4 p5 p6 p7 p8 p9 p10 q0 : Int} (h0 : slices_IndexFunc_int32_int32_2 K p0 p1 p2 p3 p4 p5 p6 p7 p8 p9 p10 = some q0) : Fn Tryz.prog 198 [.im (.slice (.slice (.slice (.int .i32)))) p0,.fn 174 [.p 0 0]] [(0,some (.cells [.fn 131 [.p 1 0]])),(1,some (.cells [.int .i64 p1,.int .i64 p2,.int .i64 p3,.int .i64 p4,.int .i64 p5,.int .i64 p6,.int .i64 p7,.int .i64 p8,.int .i64 p9,.int .i64 p10]))] (.int .i64 q0) [(0,some (.cells [.fn 131 [.p 1 0]])),(1,some (.cells [.int .i64 p1,.int .i64 p2,.int .i64 p3,.int .i64 p4,.int .i64 p5,.int .i64 p6,.int .i64 p7,.int .i64 p8,.int .i64 p9,.int .i64 p10]))]:=slices_IndexFunc_int32_int32_2.ok h0
theorem slices_IndexFunc_int32_int32_2.fnb : fnb Tryz.prog 198 = true:=fnb_of Tryz.func198 rfl
def slices_ContainsFunc_int32_int32_2.res (_p0 : List (List (List Int))) (_p1 _p2 _p3 _p4 _p5 _p6 _p7 _p8 _p9 _p10 : Int) : Bool → MV
 | q0=>.bool q0
def slices_ContainsFunc_int32_int32_2.out (_p0 : List (List (List Int))) (p1 p2 p3 p4 p5 p6 p7 p8 p9 p10 : Int) : Bool → List (Nat × Option MObj)
 | _=>[(0,some (.cells [.fn 131 [.p 1 0]])),(1,some (.cells [.int .i64 p1,.int .i64 p2,.int .i64 p3,.int .i64 p4,.int .i64 p5,.int .i64 p6,.int .i64 p7,.int .i64 p8,.int .i64 p9,.int .i64 p10]))]
theorem slices_ContainsFunc_int32_int32_2.ok {K : Nat} {p0 : List (List (List Int))} {p1 p2 p3 p4 p5 p6 p7 p8 p9 p10 : Int} {r : Bool} (h0 : slices_ContainsFunc_int32_int32_2 K p0 p1 p2 p3 p4 p5 p6 p7 p8 p9 p10 = some r) : Fn Tryz.prog 173 [.im (.slice (.slice (.slice (.int .i32)))) p0,.fn 174 [.p 0 0]] [(0,some (.cells [.fn 131 [.p 1 0]])),(1,some (.cells [.int .i64 p1,.int .i64 p2,.int .i64 p3,.int .i64 p4,.int .i64 p5,.int .i64 p6,.int .i64 p7,.int .i64 p8,.int .i64 p9,.int .i64 p10]))] (slices_ContainsFunc_int32_int32_2.res p0 p1 p2 p3 p4 p5 p6 p7 p8 p9 p10 r) (slices_ContainsFunc_int32_int32_2.out p0 p1 p2 p3 p4 p5 p6 p7 p8 p9 p10 r):=by
 refine Fn_of Tryz.func173 rfl (Nat.le_of_ble_eq_true rfl) fun Γ=>?_
 refine zr ?_
 refine zv 1 rfl ⟨tv,tv⟩ ?_
 refine zn ?_
 refine zv 2 rfl ⟨tv,tv,tv⟩ ?_
 obtain ⟨r2,hr,h0⟩:=bnd h0
 refine TL_callB [(0,0),(1,1)] (slices_IndexFunc_int32_int32_2.ok0 hr) slices_IndexFunc_int32_int32_2.fnb rfl ⟨tv,⟨tv,⟨tv,tv⟩⟩⟩ rfl ⟨.inr rfl,.inr rfl,tv⟩ rfl ?_
 refine zv 2 rfl ⟨⟨tv,tv,tv⟩,tv,tv⟩ ?_
 refine ze ?_
 refine TC_ret ?_
 obtain rfl:=sinj h0
 exact TE_ret env rfl tv ⟨.inr rfl,.inr rfl,tv⟩
theorem slices_ContainsFunc_int32_int32_2.ok0 {K : Nat} {p0 : List (List (List Int))} {p1 p2 p3 p4 p5 p6 p7 p8 p9 p10 : Int} {q0 : Bool} (h0 : slices_ContainsFunc_int32_int32_2 K p0 p1 p2 p3 p4 p5 p6 p7 p8 p9 p10 = some q0) : Fn Tryz.prog 173 [.im (.slice (.slice (.slice (.int .i32)))) p0,.fn 174 [.p 0 0]] [(0,some (.cells [.fn 131 [.p 1 0]])),(1,some (.cells [.int .i64 p1,.int .i64 p2,.int .i64 p3,.int .i64 p4,.int .i64 p5,.int .i64 p6,.int .i64 p7,.int .i64 p8,.int .i64 p9,.int .i64 p10]))] (.bool q0) [(0,some (.cells [.fn 131 [.p 1 0]])),(1,some (.cells [.int .i64 p1,.int .i64 p2,.int .i64 p3,.int .i64 p4,.int .i64 p5,.int .i64 p6,.int .i64 p7,.int .i64 p8,.int .i64 p9,.int .i64 p10]))]:=slices_ContainsFunc_int32_int32_2.ok h0
theorem slices_ContainsFunc_int32_int32_2.fnb : fnb Tryz.prog 173 = true:=fnb_of Tryz.func173 rfl
def subband_shaped_int32_2.res (_p0 : List (List (List Int))) (_p1 _p2 _p3 _p4 _p5 _p6 _p7 _p8 _p9 _p10 _p11 : Int) : Bool → MV
 | q0=>.bool q0
def subband_shaped_int32_2.out (_p0 : List (List (List Int))) (_p1 p2 p3 p4 p5 p6 p7 p8 p9 p10 p11 : Int) : Bool → List (Nat × Option MObj)
 | _=>[(0,some (.cells [.int .i64 p2,.int .i64 p3,.int .i64 p4,.int .i64 p5,.int .i64 p6,.int .i64 p7,.int .i64 p8,.int .i64 p9,.int .i64 p10,.int .i64 p11]))]
theorem subband_shaped_int32_2.ok {K : Nat} {p0 : List (List (List Int))} {p1 p2 p3 p4 p5 p6 p7 p8 p9 p10 p11 : Int} {r : Bool} (h0 : subband_shaped_int32_2 K p0 p1 p2 p3 p4 p5 p6 p7 p8 p9 p10 p11 = some r) : Fn Tryz.prog 130 [.im (.slice (.slice (.slice (.int .i32)))) p0,.int .i64 p1,.fn 131 [.p 0 0]] [(0,some (.cells [.int .i64 p2,.int .i64 p3,.int .i64 p4,.int .i64 p5,.int .i64 p6,.int .i64 p7,.int .i64 p8,.int .i64 p9,.int .i64 p10,.int .i64 p11]))] (subband_shaped_int32_2.res p0 p1 p2 p3 p4 p5 p6 p7 p8 p9 p10 p11 r) (subband_shaped_int32_2.out p0 p1 p2 p3 p4 p5 p6 p7 p8 p9 p10 p11 r):=by
 refine Fn_of Tryz.func130 rfl (Nat.le_of_ble_eq_true rfl) fun Γ=>?_
 refine zr ?_
 refine zv 2 rfl ⟨tv,tv,tv⟩ ?_
 refine ze ?_
 refine TC_seq ?_
 obtain ⟨z1,h1,h0⟩:=bnd h0
 refine TC_cut (α:=Bool) (fun s=>z1 = s) (fun s=>[(6,.bool s)]) (fun s=>[(0,some (.cells [.int .i64 p2,.int .i64 p3,.int .i64 p4,.int .i64 p5,.int .i64 p6,.int .i64 p7,.int .i64 p8,.int .i64 p9,.int .i64 p10,.int .i64 p11]))]) ?_ ?_
 ·refine TC_reg ?_
  refine zv 5 rfl ⟨tv,⟨tv,tv⟩,tv,⟨tv,tv,tv⟩,tv,tv⟩ ?_
  refine TL_split 11 rfl (fun hb=>?_) (fun hb=>?_)
  ·replace h1:=bif_t h1 hb
   refine TL_gt rfl rfl rfl rfl ?_
   refine zv 1 rfl ⟨tv,tv⟩ ?_
   refine TL_gt rfl rfl rfl rfl ?_
   refine zv 1 rfl ⟨⟨tv,tv⟩,tv⟩ ?_
   refine TL_gt rfl rfl rfl rfl ?_
   obtain ⟨r6,hr,h1⟩:=bnd h1
   refine TL_callB [(0,1005),(1,0)] (slices_ContainsFunc_int32_int32_2.ok0 hr) slices_ContainsFunc_int32_int32_2.fnb rfl ⟨tv,⟨tv,⟨tv,tv⟩⟩⟩ rfl ⟨.inr rfl,.inr rfl,tv⟩ rfl ?_
   refine TL_gt rfl rfl rfl rfl ?_
   refine zv 3 rfl ⟨tv,⟨tv,tv,tv⟩,tv,tv⟩ ?_
   refine TL_end ?_
   obtain rfl:=sinj h1
   refine tsn ?_
   exact SP_ren [] _ rfl ⟨rfl,tv⟩ ⟨rfl,tv⟩ rfl
  ·replace h1:=bif_f h1 hb
   refine TL_gf (.bool false) rfl rfl rfl rfl rfl (by decide) ?_
   refine TL_gf (.bool false) rfl rfl rfl rfl rfl (by decide) ?_
   refine TL_gf (.bool false) rfl rfl rfl rfl rfl (by decide) ?_
   refine TL_gf (.bool false) rfl rfl rfl rfl rfl (by decide) ?_
   refine zv 2 rfl ⟨⟨tv,fun e=>e,tv⟩,tv,tv⟩ ?_
   refine TL_end ?_
   obtain rfl:=sinj h1
   refine tsn ?_
   exact SP_ren [] _ rfl ⟨rfl,tv⟩ ⟨rfl,tv⟩ rfl
 ·rintro x4 hz
  obtain rfl:=hz.symm
  refine zu ?_
  obtain rfl:=sinj h0
  exact TE_ret env rfl tv ⟨.inr rfl,tv⟩
theorem subband_shaped_int32_2.ok0 {K : Nat} {p0 : List (List (List Int))} {p1 p2 p3 p4 p5 p6 p7 p8 p9 p10 p11 : Int} {q0 : Bool} (h0 : subband_shaped_int32_2 K p0 p1 p2 p3 p4 p5 p6 p7 p8 p9 p10 p11 = some q0) : Fn Tryz.prog 130 [.im (.slice (.slice (.slice (.int .i32)))) p0,.int .i64 p1,.fn 131 [.p 0 0]] [(0,some (.cells [.int .i64 p2,.int .i64 p3,.int .i64 p4,.int .i64 p5,.int .i64 p6,.int .i64 p7,.int .i64 p8,.int .i64 p9,.int .i64 p10,.int .i64 p11]))] (.bool q0) [(0,some (.cells [.int .i64 p2,.int .i64 p3,.int .i64 p4,.int .i64 p5,.int .i64 p6,.int .i64 p7,.int .i64 p8,.int .i64 p9,.int .i64 p10,.int .i64 p11]))]:=subband_shaped_int32_2.ok h0
theorem subband_shaped_int32_2.fnb : fnb Tryz.prog 130 = true:=fnb_of Tryz.func130 rfl
def subband_fits.res (_p0 _p1 _p2 _p3 _p4 _p5 _p6 _p7 _p8 _p9 : Int) (_p10 : List (List (List Int))) : Bool → MV
 | q0=>.bool q0
def subband_fits.out (_p0 _p1 _p2 _p3 _p4 _p5 _p6 _p7 _p8 _p9 : Int) (_p10 : List (List (List Int))) : Bool → List (Nat × Option MObj)
 | _=>[]
theorem subband_fits.ok {K : Nat} {p0 p1 p2 p3 p4 p5 p6 p7 p8 p9 : Int} {p10 : List (List (List Int))} {r : Bool} (h0 : subband_fits K p0 p1 p2 p3 p4 p5 p6 p7 p8 p9 p10 = some r) : Fn Tryz.prog 74 [.agg [.int .i64 p0,.int .i64 p1,.int .i64 p2,.int .i64 p3,.int .i64 p4,.int .i64 p5,.int .i64 p6,.int .i64 p7,.int .i64 p8,.int .i64 p9],.im (.slice (.slice (.slice (.int .i32)))) p10] [] (subband_fits.res p0 p1 p2 p3 p4 p5 p6 p7 p8 p9 p10 r) (subband_fits.out p0 p1 p2 p3 p4 p5 p6 p7 p8 p9 p10 r):=by
 refine Fn_of Tryz.func74 rfl (Nat.le_of_ble_eq_true rfl) fun Γ=>?_
 refine zr ?_
 refine zv 2 rfl ⟨tv,tv,tv⟩ ?_
 refine zn ?_
 refine zv 4 rfl ⟨tv,tv,⟨tv,tv⟩,⟨tv,tv⟩,tv⟩ ?_
 obtain ⟨r2,hr,h0⟩:=bnd h0
 refine TL_callB [(0,1002)] (subband_shaped_int32_2.ok0 hr) subband_shaped_int32_2.fnb rfl ⟨tv,⟨tv,⟨tv,⟨tv,tv⟩⟩⟩⟩ rfl ⟨.inr rfl,tv⟩ rfl ?_
 refine zv 1 rfl ⟨tv,tv⟩ ?_
 refine ze ?_
 refine TC_ret ?_
 obtain rfl:=sinj h0
 exact TE_ret env rfl tv tv
theorem subband_fits.ok0 {K : Nat} {p0 p1 p2 p3 p4 p5 p6 p7 p8 p9 : Int} {p10 : List (List (List Int))} {q0 : Bool} (h0 : subband_fits K p0 p1 p2 p3 p4 p5 p6 p7 p8 p9 p10 = some q0) : Fn Tryz.prog 74 [.agg [.int .i64 p0,.int .i64 p1,.int .i64 p2,.int .i64 p3,.int .i64 p4,.int .i64 p5,.int .i64 p6,.int .i64 p7,.int .i64 p8,.int .i64 p9],.im (.slice (.slice (.slice (.int .i32)))) p10] [] (.bool q0) []:=subband_fits.ok h0
theorem subband_fits.fnb : fnb Tryz.prog 74 = true:=fnb_of Tryz.func74 rfl
def quant_bands.res (_p0 : List (List Int)) : Int → MV
 | q0=>.int .i64 q0
def quant_bands.out (_p0 : List (List Int)) : Int → List (Nat × Option MObj)
 | _=>[]
theorem quant_bands.ok {K : Nat} {p0 : List (List Int)} {r : Int} (h0 : quant_bands K p0 = some r) : Fn Tryz.prog 140 [.im (.slice (.slice (.int .i32))) p0] [] (quant_bands.res p0 r) (quant_bands.out p0 r):=by
 refine Fn_of Tryz.func140 rfl (Nat.le_of_ble_eq_true rfl) fun Γ=>?_
 refine zr ?_
 refine zv 1 rfl ⟨tv,tv⟩ ?_
 refine ze ?_
 refine TC_seq ?_
 refine zr ?_
 obtain ⟨g,h0⟩:=gd_t h0
 refine zv 10 rfl ⟨tv,⟨tv,tv⟩,⟨tv,tv,tv⟩,tv,fun eg=>tv,fun eg=>⟨fun e=>e,tv,(by decide),(g eg)⟩,fun eg=>⟨fun e=>e,tv⟩,fun eg=>⟨fun e=>e,tv⟩,fun eg=>⟨fun e=>e,tv,tv⟩,⟨tv,tv,fun e=>e⟩,tv⟩ ?_
 refine ze ?_
 refine TC_cond rfl (fun hb=>?_) (fun hb=>?_)
 ·replace h0:=bif_t h0 hb
  refine zr ?_
  refine zv 1 rfl ⟨tv,tv⟩ ?_
  refine ze ?_
  refine TC_ret ?_
  refine tsr ?_
  obtain rfl:=sinj h0
  exact TE_ret env rfl tv tv
 ·replace h0:=bif_f h0 hb
  refine TC_skip ?_
  refine TE_go ?_
  refine TC_seq ?_
  refine zr ?_
  refine zv 3 rfl ⟨tv,⟨tv,tv⟩,tv,tv⟩ ?_
  refine ze ?_
  obtain ⟨z1,h1,h0⟩:=bnd h0
  refine TC_cut (α:=Unit) (fun _=>z1 = .inl ()) (fun _=>[(0,.im (.slice (.slice (.int .i32))) p0)]) (fun _=>[]) ?_ ?_
  ·refine TC_blk ?_
   refine TC_loop (α:=Int) (fun n s=>quant_bands.l0 K p0 (p0.length : Int) n s = some z1) (fun s=>[(0,.im (.slice (.slice (.int .i32))) p0),(15,.im (.slice (.slice (.int .i32))) p0),(16,.int .i64 (p0.length : Int)),(17,.int .i64 s)]) (fun s=>[]) K ?_ ?_
   ·exact SP_ren [] _ h1 ⟨rfl,rfl,rfl,rfl,tv⟩ tv rfl
   rintro n x10 h1
   rcases n with _ | n
   ·exact (nsome h1).elim
   replace h1 : quant_bands.r0 K p0 (p0.length : Int) (quant_bands.l0 K p0 (p0.length : Int) n) x10 = some z1:=h1
   refine zr ?_
   refine zv 1 rfl ⟨⟨tv,tv,tv⟩,tv⟩ ?_
   refine ze ?_
   refine TC_seq ?_
   refine TC_cond rfl (fun hb=>?_) (fun hb=>?_)
   ·replace h1:=bif_t h1 hb
    refine TC_skip ?_
    refine TE_go ?_
    refine TC_seq ?_
    refine TC_blk ?_
    refine zr ?_
    obtain ⟨g,h1⟩:=gd_t h1
    refine zv 3 rfl ⟨⟨tv,tv,g.1,g.2⟩,⟨tv,tv⟩,tv,tv⟩ ?_
    refine zn ?_
    obtain ⟨g,h1⟩:=gd_t h1
    refine zv 7 rfl ⟨tv,⟨tv,tv⟩,tv,⟨tv,tv,(by decide),g⟩,⟨tv,tv⟩,⟨tv,tv⟩,⟨tv,tv,tv⟩,tv⟩ ?_
    refine ze ?_
    refine TC_cond rfl (fun hb=>?_) (fun hb=>?_)
    ·replace h1:=bif_t h1 hb
     refine zr ?_
     refine zv 1 rfl ⟨tv,tv⟩ ?_
     refine ze ?_
     refine TC_ret ?_
     refine tbr ?_
     refine tsr ?_
     refine tsr ?_
     refine tbr ?_
     refine tsr ?_
     refine tsr ?_
     obtain rfl:=sinj h1
     obtain rfl:=sinj h0
     exact TE_ret env rfl tv tv
    ·replace h1:=bif_f h1 hb
     refine TC_skip ?_
     refine tbn ?_
     refine zt ?_
     refine zv 2 rfl ⟨⟨tv,tv,tv⟩,tv,tv⟩ ?_
     refine zm ?_
     exact TE_nextr [] n (zs n) _ h1 ⟨rfl,rfl,rfl,rfl,tv⟩ tv rfl
   ·replace h1:=bif_f h1 hb
    refine TC_exit ?_
    refine tsx ?_
    refine tsx ?_
    refine tbe ?_
    obtain rfl:=sinj h1
    refine tsn ?_
    exact SP_ren [] () rfl ⟨rfl,tv⟩ tv rfl
  ·rintro ⟨⟩ rfl
   refine zg ?_
   obtain ⟨g,h0⟩:=gd_t h0
   refine zv 5 rfl ⟨tv,⟨tv,tv,(by decide),g⟩,⟨tv,tv⟩,⟨tv,tv⟩,tv,tv⟩ ?_
   refine ze ?_
   refine TC_ret ?_
   obtain rfl:=sinj h0
   exact TE_ret env rfl tv tv
theorem quant_bands.ok0 {K : Nat} {p0 : List (List Int)} {q0 : Int} (h0 : quant_bands K p0 = some q0) : Fn Tryz.prog 140 [.im (.slice (.slice (.int .i32))) p0] [] (.int .i64 q0) []:=quant_bands.ok h0
theorem quant_bands.fnb : fnb Tryz.prog 140 = true:=fnb_of Tryz.func140 rfl
def quant_Middle_1.res (_p0 _p1 : Int) : Int × Int → MV
 | (q0,q1)=>.tup [.int .i32 q0,.int .i32 q1]
def quant_Middle_1.out (_p0 _p1 : Int) : Int × Int → List (Nat × Option MObj)
 | (_,_)=>[]
theorem quant_Middle_1.ok {K : Nat} {p0 p1 : Int} {r : Int × Int} (h0 : quant_Middle_1 K p0 p1 = some r) : Fn Tryz.prog 139 [.int .i32 p0,.int .i32 p1] [] (quant_Middle_1.res p0 p1 r) (quant_Middle_1.out p0 p1 r):=by
 refine Fn_of Tryz.func139 rfl (Nat.le_of_ble_eq_true rfl) fun Γ=>?_
 refine zr ?_
 refine zv 2 rfl ⟨tv,tv,tv⟩ ?_
 refine zn ?_
 refine zv 16 rfl ⟨tv,tv,tv,tv,⟨tv,tv,tv⟩,⟨tv,tv,(by decide)⟩,tv,tv,tv,tv,tv,⟨tv,tv,tv⟩,⟨tv,tv,(by decide)⟩,tv,tv,tv,tv⟩ ?_
 refine ze ?_
 refine TC_ret ?_
 obtain rfl:=sinj h0
 exact TE_ret env rfl tv tv
theorem quant_Middle_1.ok0 {K : Nat} {p0 p1 q0 q1 : Int} (h0 : quant_Middle_1 K p0 p1 = some (q0,q1)) : Fn Tryz.prog 139 [.int .i32 p0,.int .i32 p1] [] (.tup [.int .i32 q0,.int .i32 q1]) []:=quant_Middle_1.ok h0
theorem quant_Middle_1.fnb : fnb Tryz.prog 139 = true:=fnb_of Tryz.func139 rfl
def quant_pairs.res (_p0 _p1 : List (List Int)) : (List (List Int)) × (List (List Int)) × Int → MV
 | (q0,q1,q2)=>.tup [.im (.slice (.slice (.int .i32))) q0,.im (.slice (.slice (.int .i32))) q1,.int .i64 q2]
def quant_pairs.out (_p0 _p1 : List (List Int)) : (List (List Int)) × (List (List Int)) × Int → List (Nat × Option MObj)
 | (_,_,_)=>[]
theorem quant_pairs.ok {K : Nat} {p0 p1 : List (List Int)} {r : (List (List Int)) × (List (List Int)) × Int} (h0 : quant_pairs K p0 p1 = some r) : Fn Tryz.prog 138 [.im (.slice (.slice (.int .i32))) p0,.im (.slice (.slice (.int .i32))) p1,.fn 139 []] [] (quant_pairs.res p0 p1 r) (quant_pairs.out p0 p1 r):=by
 refine Fn_of Tryz.func138 rfl (Nat.le_of_ble_eq_true rfl) fun Γ=>?_
 unfold quant_pairs at h0
 refine zr ?_
 refine zv 3 rfl ⟨tv,tv,tv,tv⟩ ?_
 refine ze ?_
 refine TC_seq ?_
 refine TC_seq ?_
 obtain ⟨z1,h1,h0⟩:=bnd h0
 refine TC_cut (α:=Bool) (fun s=>z1 = s) (fun s=>[(0,.im (.slice (.slice (.int .i32))) p0),(1,.im (.slice (.slice (.int .i32))) p1),(2,.fn 139 []),(33,.bool s)]) (fun s=>[]) ?_ ?_
 ·refine TC_reg ?_
  refine zv 1 rfl ⟨tv,tv⟩ ?_
  obtain ⟨r289,hr,h1⟩:=bnd h1
  refine TL_callB [] (quant_bands.ok0 hr) quant_bands.fnb rfl ⟨tv,⟨tv,tv⟩⟩ rfl tv rfl ?_
  refine zv 2 rfl ⟨⟨tv,tv,tv⟩,tv,tv⟩ ?_
  refine TL_split 20 rfl (fun hb=>?_) (fun hb=>?_)
  ·replace h1:=bif_t h1 hb
   refine TL_gf (.bool false) rfl rfl rfl rfl rfl (by decide) ?_
   refine TL_gf (.bool false) rfl rfl rfl rfl rfl (by decide) ?_
   refine TL_gf (.bool false) rfl rfl rfl rfl rfl (by decide) ?_
   refine TL_gf (.bool false) rfl rfl rfl rfl rfl (by decide) ?_
   refine TL_gf (.bool false) rfl rfl rfl rfl rfl (by decide) ?_
   refine zv 2 rfl ⟨⟨tv,tv,fun e=>e⟩,tv,tv⟩ ?_
   refine TL_gf (.bool false) rfl rfl rfl rfl rfl (by decide) ?_
   refine TL_gf (.bool false) rfl rfl rfl rfl rfl (by decide) ?_
   refine TL_gf (.bool false) rfl rfl rfl rfl rfl (by decide) ?_
   refine TL_gf (.bool false) rfl rfl rfl rfl rfl (by decide) ?_
   refine TL_gf (.bool false) rfl rfl rfl rfl rfl (by decide) ?_
   refine zv 1 rfl ⟨⟨tv,tv,fun e=>e⟩,tv⟩ ?_
   refine TL_end ?_
   obtain rfl:=sinj h1
   refine tsn ?_
   exact SP_ren [] _ rfl ⟨rfl,rfl,rfl,rfl,tv⟩ tv rfl
  ·replace h1:=bif_f h1 hb
   refine TL_gt rfl rfl rfl rfl ?_
   refine zv 1 rfl ⟨tv,tv⟩ ?_
   refine TL_gt rfl rfl rfl rfl ?_
   obtain ⟨r290,hr,h1⟩:=bnd h1
   refine TL_callB [] (quant_bands.ok0 hr) quant_bands.fnb rfl ⟨tv,⟨tv,tv⟩⟩ rfl tv rfl ?_
   refine TL_gt rfl rfl rfl rfl ?_
   refine zv 1 rfl ⟨tv,tv⟩ ?_
   refine TL_gt rfl rfl rfl rfl ?_
   obtain ⟨r291,hr,h1⟩:=bnd h1
   refine TL_callB [] (quant_bands.ok0 hr) quant_bands.fnb rfl ⟨tv,⟨tv,tv⟩⟩ rfl tv rfl ?_
   refine TL_gt rfl rfl rfl rfl ?_
   refine zv 9 rfl ⟨⟨tv,tv,tv⟩,⟨tv,tv,tv⟩,tv,fun eg=>tv,fun eg=>⟨fun e=>e,tv⟩,fun eg=>tv,fun eg=>⟨fun e=>e,tv⟩,fun eg=>⟨fun e=>e,fun e=>e,tv⟩,⟨tv,tv,fun e=>e⟩,tv⟩ ?_
   refine TL_end ?_
   obtain rfl:=sinj h1
   refine tsn ?_
   exact SP_ren [] _ rfl ⟨rfl,rfl,rfl,rfl,tv⟩ tv rfl
 ·rintro x80 hz
  obtain rfl:=hz.symm
  refine TE_go ?_
  refine TC_cond rfl (fun hb=>?_) (fun hb=>?_)
  ·replace h0:=bif_t h0 hb
   refine zr ?_
   refine zv 3 rfl ⟨tv,tv,tv,tv⟩ ?_
   refine ze ?_
   refine TC_ret ?_
   refine tsr ?_
   refine TE_imn 6 (.slice (.int .i32)) rfl ?_
   refine TE_imn 7 (.slice (.int .i32)) rfl ?_
   obtain rfl:=sinj h0
   exact TE_ret env rfl tv tv
  ·replace h0:=bif_f h0 hb
   refine TC_skip ?_
   refine TE_go ?_
   refine TC_seq ?_
   refine TC_renw (A':=[(0,.im (.slice (.slice (.int .i32))) _),(1,.im (.slice (.slice (.int .i32))) _),(2,.fn 139 [])]) (L':=[]) [] ⟨rfl,rfl,rfl,tv⟩ tv rfl ?_
   refine zd [[],[0],[1,0],[],[3],[4,3],[2,1,0],[6,5,4,3,2,1,0]] [[],[],[1036],[],[],[1039],[],[]] [[],[],[1036],[],[],[1039],[],[]] [[1039],[1039],[1039],[1036],[1036],[1036],[1039],[]] (by kernel_rfl) (by kernel_rfl) ?_
   refine zj 1 rfl rfl rfl tv ?_
   refine zj 2 rfl rfl rfl ⟨tv,tv⟩ ?_
   obtain ⟨g,h0⟩:=gd_t h0
   refine zj 3 rfl rfl rfl ⟨tv,tv,g.1,g.2.1,g.2.2⟩ ?_
   refine zj 4 rfl rfl rfl tv ?_
   refine zj 5 rfl rfl rfl ⟨tv,tv⟩ ?_
   obtain ⟨g,h0⟩:=gd_t h0
   refine zj 6 rfl rfl rfl ⟨tv,tv,g.1,g.2.1,g.2.2⟩ ?_
   refine zj 7 rfl rfl rfl tv ?_
   refine zj 8 rfl rfl rfl tv ?_
   refine AJR_end rfl rfl rfl ?_
   refine TE_go ?_
   refine TC_seq ?_
   refine zr ?_
   refine zv 3 rfl ⟨tv,⟨tv,tv⟩,tv,tv⟩ ?_
   refine ze ?_
   obtain ⟨z1,h1,h0⟩:=bnd h0
   refine TC_cut (α:=(List (List Int)) × (List (List Int))) (fun s=>z1 = s) (fun s=>[(9,.sl 14200),(10,.sl 14201)]) (fun s=>[(14200,some (.rr true (.int .i32) s.1 none)),(14201,some (.rr true (.int .i32) s.2 none))]) ?_ ?_
   ·refine TC_blk ?_
    refine TC_loop (α:=Int × (List (List Int)) × (List (List Int))) (fun n s=>quant_pairs.l0 K p1 p0 (p0.length : Int) n s.1 s.2.1 s.2.2 = some z1) (fun s=>[(1,.im (.slice (.slice (.int .i32))) p1),(2,.fn 139 []),(9,.sl 15200),(10,.sl 15201),(40,.im (.slice (.slice (.int .i32))) p0),(41,.int .i64 (p0.length : Int)),(42,.int .i64 s.1)]) (fun s=>[(15200,some (.rr true (.int .i32) s.2.1 none)),(15201,some (.rr true (.int .i32) s.2.2 none))]) K ?_ ?_
    ·exact SP_ren [(15200,1036),(15201,1039)] (_,_,_) h1 ⟨rfl,rfl,rfl,rfl,rfl,rfl,rfl,tv⟩ ⟨rfl,rfl,tv⟩ rfl
    rintro n ⟨x186,x187,x188⟩ h1
    rcases n with _ | n
    ·exact (nsome h1).elim
    replace h1 : quant_pairs.r0 K p1 p0 (p0.length : Int) (quant_pairs.l0 K p1 p0 (p0.length : Int) n) x186 x187 x188 = some z1:=h1
    refine zr ?_
    refine zv 1 rfl ⟨⟨tv,tv,tv⟩,tv⟩ ?_
    refine ze ?_
    refine TC_seq ?_
    refine TC_cond rfl (fun hb=>?_) (fun hb=>?_)
    ·replace h1:=bif_t h1 hb
     refine TC_skip ?_
     refine TE_go ?_
     refine TC_seq ?_
     refine TC_blk ?_
     refine zr ?_
     obtain ⟨g,h1⟩:=gd_t h1
     refine zv 5 rfl ⟨tv,⟨tv,tv,g.1,g.2⟩,⟨tv,tv⟩,tv,tv,tv⟩ ?_
     refine zn ?_
     refine zv 3 rfl ⟨tv,⟨tv,tv⟩,tv,tv⟩ ?_
     refine ze ?_
     obtain ⟨z2,h2,h1⟩:=bnd h1
     refine TC_cut (α:=(List (List Int)) × (List (List Int))) (fun s=>z2 = s) (fun s=>[(1,.im (.slice (.slice (.int .i32))) p1),(2,.fn 139 []),(9,.sl 16900),(10,.sl 16901),(40,.im (.slice (.slice (.int .i32))) p0),(41,.int .i64 (p0.length : Int)),(42,.int .i64 x186)]) (fun s=>[(16900,some (.rr true (.int .i32) s.1 none)),(16901,some (.rr true (.int .i32) s.2 none))]) ?_ ?_
     ·refine TC_blk ?_
      refine TC_loop (α:=Int × (List (List Int)) × (List (List Int))) (fun n s=>quant_pairs.l1 K p1 x186 p0 (p0.length : Int) (Kd.nth (.slice (.int .i32)) p0 (Int.toNat x186)) ((Kd.nth (.slice (.int .i32)) p0 (Int.toNat x186)).length : Int) n s.1 s.2.1 s.2.2 = some z2) (fun s=>[(1,.im (.slice (.slice (.int .i32))) p1),(2,.fn 139 []),(9,.sl 17100),(10,.sl 17101),(11,.int .i64 x186),(40,.im (.slice (.slice (.int .i32))) p0),(41,.int .i64 (p0.length : Int)),(42,.int .i64 x186),(47,.im (.slice (.int .i32)) (Kd.nth (.slice (.int .i32)) p0 (Int.toNat x186))),(48,.int .i64 ((Kd.nth (.slice (.int .i32)) p0 (Int.toNat x186)).length : Int)),(49,.int .i64 s.1)]) (fun s=>[(17100,some (.rr true (.int .i32) s.2.1 none)),(17101,some (.rr true (.int .i32) s.2.2 none))]) K ?_ ?_
      ·exact SP_ren [(17100,15200),(17101,15201)] (_,_,_) h2 ⟨rfl,rfl,rfl,rfl,rfl,rfl,rfl,rfl,rfl,rfl,rfl,tv⟩ ⟨rfl,rfl,tv⟩ rfl
      rintro n ⟨x264,x265,x266⟩ h2
      rcases n with _ | n
      ·exact (nsome h2).elim
      replace h2 : quant_pairs.r1 K p1 x186 p0 (p0.length : Int) (Kd.nth (.slice (.int .i32)) p0 (Int.toNat x186)) ((Kd.nth (.slice (.int .i32)) p0 (Int.toNat x186)).length : Int) (quant_pairs.l1 K p1 x186 p0 (p0.length : Int) (Kd.nth (.slice (.int .i32)) p0 (Int.toNat x186)) ((Kd.nth (.slice (.int .i32)) p0 (Int.toNat x186)).length : Int) n) x264 x265 x266 = some z2:=h2
      refine zr ?_
      refine zv 1 rfl ⟨⟨tv,tv,tv⟩,tv⟩ ?_
      refine ze ?_
      refine TC_seq ?_
      refine TC_cond rfl (fun hb=>?_) (fun hb=>?_)
      ·replace h2:=bif_t h2 hb
       refine TC_skip ?_
       refine TE_go ?_
       refine TC_seq ?_
       refine TC_blk ?_
       refine zr ?_
       obtain ⟨g,h2⟩:=gd_t h2
       refine zv 5 rfl ⟨tv,⟨tv,tv,g.1,g.2⟩,⟨tv,tv⟩,tv,tv,tv⟩ ?_
       refine zn ?_
       obtain ⟨g,h2⟩:=gd_t h2
       refine zv 9 rfl ⟨tv,tv,tv,tv,⟨tv,tv,g.1,g.2.1⟩,⟨tv,tv⟩,tv,⟨tv,tv,g.2.2.1,g.2.2.2⟩,⟨tv,tv⟩,tv⟩ ?_
       obtain ⟨⟨r280,r281⟩,hr,h2⟩:=bnd h2
       refine TL_callB [] (quant_Middle_1.ok0 hr) quant_Middle_1.fnb rfl ⟨tv,⟨tv,⟨tv,tv⟩⟩⟩ rfl tv rfl ?_
       refine zv 5 rfl ⟨tv,tv,tv,tv,tv,tv⟩ ?_
       refine ze ?_
       refine TC_renw (A':=[(1,.im (.slice (.slice (.int .i32))) _),(2,.fn 139 []),(9,.sl 17100),(10,.sl 17101),(11,.int .i64 _),(15,.int .i32 _),(16,.int .i32 _),(40,.im (.slice (.slice (.int .i32))) _),(41,.int .i64 _),(42,.int .i64 _),(47,.im (.slice (.int .i32)) _),(48,.int .i64 _),(49,.int .i64 _)]) (L':=[(17100,some (.rr true (.int .i32) _ none)),(17101,some (.rr true (.int .i32) _ none))]) [] ⟨rfl,rfl,rfl,rfl,rfl,rfl,rfl,rfl,rfl,rfl,rfl,rfl,rfl,tv⟩ ⟨rfl,rfl,tv⟩ rfl ?_
       refine zd [[],[],[],[],[],[],[5,4],[6,5,4],[],[8],[9,8,7,6,5,4],[],[],[12,11],[13,12,11],[],[15],[16,15,14,13,12,11,10,9,8,7,6,5,4],[17,16,15,14,13,12,11,10,9,8,7,6,5,4,1,0],[18,17,16,15,14,13,12,11,10,9,8,7,6,5,4,1,0],[19,18,17,16,15,14,13,12,11,10,9,8,7,6,5,4,3,2,1,0],[20,19,18,17,16,15,14,13,12,11,10,9,8,7,6,5,4,3,2,1,0]] [[],[],[],[],[],[],[],[1074,17100],[],[1076],[1074,1077],[],[],[],[1081,17101],[],[1083],[1081,1084],[],[1077,17100],[],[1084,17101]] [[],[],[],[],[],[],[],[1074],[],[1076],[1077],[],[],[],[1081],[],[1083],[1084],[],[],[],[]] [[1074,1076,1077,1081,1083,1084,17100,17101],[1074,1076,1077,1081,1083,1084,17100,17101],[1074,1076,1077,1081,1083,1084,17100,17101],[1074,1076,1077,1081,1083,1084,17100,17101],[1076,1081,1083,17101],[1076,1081,1083,17101],[1076,1081,1083,17101],[1076,1081,1083,17101],[1074,1081,1083,17100,17101],[1074,1081,1083,17100,17101],[1081,1083,17101],[1074,1076,1077,1083,17100],[1074,1076,1077,1083,17100],[1074,1076,1077,1083,17100],[1074,1076,1077,1083,17100],[1074,1076,1077,1081,17100,17101],[1074,1076,1077,1081,17100,17101],[],[],[],[],[]] (by kernel_rfl) (by kernel_rfl) ?_
       refine zj 1 rfl rfl rfl tv ?_
       refine zj 2 rfl rfl rfl tv ?_
       refine zj 3 rfl rfl rfl tv ?_
       refine zj 4 rfl rfl rfl tv ?_
       refine zj 5 rfl rfl rfl tv ?_
       refine zj 6 rfl rfl rfl tv ?_
       obtain ⟨g,h2⟩:=gd_t h2
       refine zj 7 rfl rfl rfl ⟨tv,tv,g.1,g.2⟩ ?_
       obtain ⟨g,h2⟩:=gd_t h2
       refine zj 8 rfl rfl rfl ⟨tv,g⟩ ?_
       refine zj 9 rfl rfl rfl tv ?_
       refine zj 10 rfl rfl rfl ⟨tv,tv⟩ ?_
       obtain ⟨g,h2⟩:=gd_t h2
       refine zj 11 rfl rfl rfl ⟨⟨tv,tv,tv⟩,g⟩ ?_
       refine zj 12 rfl rfl rfl tv ?_
       refine zj 13 rfl rfl rfl tv ?_
       obtain ⟨g,h2⟩:=gd_t h2
       refine zj 14 rfl rfl rfl ⟨tv,tv,g.1,g.2⟩ ?_
       obtain ⟨g,h2⟩:=gd_t h2
       refine zj 15 rfl rfl rfl ⟨tv,g⟩ ?_
       refine zj 16 rfl rfl rfl tv ?_
       refine zj 17 rfl rfl rfl ⟨tv,tv⟩ ?_
       obtain ⟨g,h2⟩:=gd_t h2
       refine zj 18 rfl rfl rfl ⟨⟨tv,tv,tv⟩,g⟩ ?_
       obtain ⟨g,h2⟩:=gd_t h2
       refine zj 19 rfl rfl rfl ⟨tv,tv,g.1,g.2⟩ ?_
       obtain ⟨g,h2⟩:=gd_t h2
       refine zj 20 rfl rfl rfl ⟨tv,tv,g,rfl⟩ ?_
       obtain ⟨g,h2⟩:=gd_t h2
       refine zj 21 rfl rfl rfl ⟨tv,tv,g.1,g.2⟩ ?_
       obtain ⟨g,h2⟩:=gd_t h2
       refine zj 22 rfl rfl rfl ⟨tv,tv,g,rfl⟩ ?_
       refine AJR_end rfl rfl rfl ?_
       refine tbn ?_
       refine zt ?_
       refine zv 2 rfl ⟨⟨tv,tv,tv⟩,tv,tv⟩ ?_
       refine zm ?_
       exact TE_nextr [(17100,17100),(17101,17101)] n (zs n) (_,_,_) h2 ⟨rfl,rfl,rfl,rfl,rfl,rfl,rfl,rfl,rfl,rfl,rfl,tv⟩ ⟨rfl,rfl,tv⟩ rfl
      ·replace h2:=bif_f h2 hb
       refine TC_exit ?_
       refine tsx ?_
       refine tsx ?_
       refine tbe ?_
       obtain rfl:=sinj h2
       refine tsn ?_
       exact SP_ren [(16900,17100),(16901,17101)] (_,_) rfl ⟨rfl,rfl,rfl,rfl,rfl,rfl,rfl,tv⟩ ⟨rfl,rfl,tv⟩ rfl
     ·rintro ⟨x257,x258⟩ rfl
      refine tbn ?_
      refine zt ?_
      refine zv 2 rfl ⟨⟨tv,tv,tv⟩,tv,tv⟩ ?_
      refine zm ?_
      exact TE_nextr [(15200,16900),(15201,16901)] n (zs n) (_,_,_) h1 ⟨rfl,rfl,rfl,rfl,rfl,rfl,rfl,tv⟩ ⟨rfl,rfl,tv⟩ rfl
    ·replace h1:=bif_f h1 hb
     refine TC_exit ?_
     refine tsx ?_
     refine tsx ?_
     refine tbe ?_
     obtain rfl:=sinj h1
     refine tsn ?_
     exact SP_ren [(14200,15200),(14201,15201)] (_,_) rfl ⟨rfl,rfl,tv⟩ ⟨rfl,rfl,tv⟩ rfl
   ·rintro ⟨x152,x153⟩ rfl
    refine zg ?_
    refine zv 5 rfl ⟨tv,tv,tv,tv,tv,tv⟩ ?_
    refine ze ?_
    refine TC_ret ?_
    refine TE_frr 14200 rfl ?_
    refine TE_frr 14201 rfl ?_
    obtain rfl:=sinj h0
    exact TE_ret env rfl tv tv
theorem quant_pairs.ok0 {K : Nat} {p0 p1 q0 q1 : List (List Int)} {q2 : Int} (h0 : quant_pairs K p0 p1 = some (q0,q1,q2)) : Fn Tryz.prog 138 [.im (.slice (.slice (.int .i32))) p0,.im (.slice (.slice (.int .i32))) p1,.fn 139 []] [] (.tup [.im (.slice (.slice (.int .i32))) q0,.im (.slice (.slice (.int .i32))) q1,.int .i64 q2]) []:=quant_pairs.ok h0
theorem quant_pairs.fnb : fnb Tryz.prog 138 = true:=fnb_of Tryz.func138 rfl
def quant_Middle.res (_p0 _p1 : List (List Int)) : (List (List Int)) × (List (List Int)) × Int → MV
 | (q0,q1,q2)=>.tup [.im (.slice (.slice (.int .i32))) q0,.im (.slice (.slice (.int .i32))) q1,.int .i64 q2]
def quant_Middle.out (_p0 _p1 : List (List Int)) : (List (List Int)) × (List (List Int)) × Int → List (Nat × Option MObj)
 | (_,_,_)=>[]
theorem quant_Middle.ok {K : Nat} {p0 p1 : List (List Int)} {r : (List (List Int)) × (List (List Int)) × Int} (h0 : quant_Middle K p0 p1 = some r) : Fn Tryz.prog 77 [.im (.slice (.slice (.int .i32))) p0,.im (.slice (.slice (.int .i32))) p1] [] (quant_Middle.res p0 p1 r) (quant_Middle.out p0 p1 r):=by
 refine Fn_of Tryz.func77 rfl (Nat.le_of_ble_eq_true rfl) fun Γ=>?_
 refine zr ?_
 refine zv 3 rfl ⟨tv,tv,tv,tv⟩ ?_
 refine zn ?_
 refine zv 2 rfl ⟨tv,tv,tv⟩ ?_
 obtain ⟨⟨r4,r5,r6⟩,hr,h0⟩:=bnd h0
 refine TL_callB [] (quant_pairs.ok0 hr) quant_pairs.fnb rfl ⟨tv,⟨tv,⟨tv,⟨tv,tv⟩⟩⟩⟩ rfl tv rfl ?_
 refine zv 6 rfl ⟨tv,tv,tv,tv,tv,tv,tv⟩ ?_
 refine ze ?_
 refine TC_ret ?_
 obtain rfl:=sinj h0
 exact TE_ret env rfl tv tv
theorem quant_Middle.ok0 {K : Nat} {p0 p1 q0 q1 : List (List Int)} {q2 : Int} (h0 : quant_Middle K p0 p1 = some (q0,q1,q2)) : Fn Tryz.prog 77 [.im (.slice (.slice (.int .i32))) p0,.im (.slice (.slice (.int .i32))) p1] [] (.tup [.im (.slice (.slice (.int .i32))) q0,.im (.slice (.slice (.int .i32))) q1,.int .i64 q2]) []:=quant_Middle.ok h0
theorem quant_Middle.fnb : fnb Tryz.prog 77 = true:=fnb_of Tryz.func77 rfl
def quant_Scale.res (_p0 : Int) : Int → MV
 | q0=>.int .i64 q0
def quant_Scale.out (_p0 : Int) : Int → List (Nat × Option MObj)
 | _=>[]
theorem quant_Scale.ok {K : Nat} {p0 r : Int} (h0 : quant_Scale K p0 = some r) : Fn Tryz.prog 141 [.int .i64 p0] [] (quant_Scale.res p0 r) (quant_Scale.out p0 r):=by
 refine Fn_of Tryz.func141 rfl (Nat.le_of_ble_eq_true rfl) fun Γ=>?_
 refine zr ?_
 refine zv 1 rfl ⟨tv,tv⟩ ?_
 refine zn ?_
 refine zv 1 rfl ⟨tv,tv⟩ ?_
 refine ze ?_
 refine TC_seq ?_
 obtain ⟨z1,h1,h0⟩:=bnd h0
 refine TC_cut (α:=Int) (fun s=>z1 = s) (fun s=>[(3,.int .i64 s)]) (fun s=>[]) ?_ ?_
 ·refine TC_blk ?_
  refine TC_loop (α:=Int) (fun n s=>quant_Scale.l0 K p0 n s = some z1) (fun s=>[(0,.int .i64 p0),(3,.int .i64 s)]) (fun s=>[]) K ?_ ?_
  ·exact SP_ren [] _ h1 ⟨rfl,rfl,tv⟩ tv rfl
  rintro n x7 h1
  rcases n with _ | n
  ·exact (nsome h1).elim
  replace h1 : quant_Scale.r0 K p0 (quant_Scale.l0 K p0 n) x7 = some z1:=h1
  refine TC_seq ?_
  refine zr ?_
  obtain ⟨g,h1⟩:=gd_t h1
  refine zv 8 rfl ⟨tv,⟨tv,tv,tv⟩,tv,fun eg=>tv,fun eg=>tv,fun eg=>⟨tv,fun e=>e,(g eg)⟩,fun eg=>⟨fun e=>e,fun e=>e,tv⟩,⟨tv,fun e=>e,tv⟩,tv⟩ ?_
  refine ze ?_
  refine TC_cond rfl (fun hb=>?_) (fun hb=>?_)
  ·replace h1:=bif_t h1 hb
   refine TC_skip ?_
   refine TE_go ?_
   refine TC_blk ?_
   refine TC_reg ?_
   refine zv 3 rfl ⟨tv,⟨tv,tv,tv⟩,tv,tv⟩ ?_
   refine TL_end ?_
   refine tbn ?_
   refine tsn ?_
   exact TE_nextr [] n (zs n) _ h1 ⟨rfl,rfl,tv⟩ tv rfl
  ·replace h1:=bif_f h1 hb
   refine TC_exit ?_
   refine tsx ?_
   refine tsx ?_
   refine tbe ?_
   obtain rfl:=sinj h1
   refine tsn ?_
   exact SP_ren [] _ rfl ⟨rfl,tv⟩ tv rfl
 ·rintro x6 hz
  obtain rfl:=hz.symm
  refine zg ?_
  refine zv 2 rfl ⟨tv,tv,tv⟩ ?_
  refine ze ?_
  refine TC_ret ?_
  obtain rfl:=sinj h0
  exact TE_ret env rfl tv tv
theorem quant_Scale.ok0 {K : Nat} {p0 q0 : Int} (h0 : quant_Scale K p0 = some q0) : Fn Tryz.prog 141 [.int .i64 p0] [] (.int .i64 q0) []:=quant_Scale.ok h0
theorem quant_Scale.fnb : fnb Tryz.prog 141 = true:=fnb_of Tryz.func141 rfl
def quant_Scales.res (_p0 : List (List Int)) : (List Int) × Int → MV
 | (q0,q1)=>.tup [.im (.slice (.int .i64)) q0,.int .i64 q1]
def quant_Scales.out (_p0 : List (List Int)) : (List Int) × Int → List (Nat × Option MObj)
 | (_,_)=>[]
theorem quant_Scales.ok {K : Nat} {p0 : List (List Int)} {r : (List Int) × Int} (h0 : quant_Scales K p0 = some r) : Fn Tryz.prog 78 [.im (.slice (.slice (.int .i32))) p0] [] (quant_Scales.res p0 r) (quant_Scales.out p0 r):=by
 refine Fn_of Tryz.func78 rfl (Nat.le_of_ble_eq_true rfl) fun Γ=>?_
 refine zr ?_
 refine zv 2 rfl ⟨tv,tv,tv⟩ ?_
 refine zn ?_
 refine zv 1 rfl ⟨tv,tv⟩ ?_
 obtain ⟨r36,hr,h0⟩:=bnd h0
 refine TL_callB [] (quant_bands.ok0 hr) quant_bands.fnb rfl ⟨tv,⟨tv,tv⟩⟩ rfl tv rfl ?_
 refine zv 1 rfl ⟨tv,tv⟩ ?_
 refine ze ?_
 refine TC_seq ?_
 refine zr ?_
 refine zv 2 rfl ⟨tv,⟨tv,tv,tv⟩,tv⟩ ?_
 refine ze ?_
 refine TC_cond rfl (fun hb=>?_) (fun hb=>?_)
 ·replace h0:=bif_t h0 hb
  refine zr ?_
  refine zv 2 rfl ⟨tv,tv,tv⟩ ?_
  refine ze ?_
  refine TC_ret ?_
  refine tsr ?_
  refine TE_imn 2 (.int .i64) rfl ?_
  obtain rfl:=sinj h0
  exact TE_ret env rfl tv tv
 ·replace h0:=bif_f h0 hb
  refine TC_skip ?_
  refine zg ?_
  obtain ⟨g,h0⟩:=gd_t h0
  refine zv 3 rfl ⟨tv,⟨tv,tv,g.1,g.2.1,g.2.2⟩,tv,tv⟩ ?_
  refine ze ?_
  refine TC_seq ?_
  refine zr ?_
  refine zv 3 rfl ⟨tv,⟨tv,tv⟩,tv,tv⟩ ?_
  refine ze ?_
  obtain ⟨z1,h1,h0⟩:=bnd h0
  refine TC_cut (α:=(List Int)) (fun s=>z1 = s) (fun s=>[(4,.int .i64 r36),(5,.sl 14400)]) (fun s=>[(14400,some (.rows (.int .i64) s))]) ?_ ?_
  ·refine TC_blk ?_
   refine TC_loop (α:=Int × (List Int)) (fun n s=>quant_Scales.l1 K r36 p0 (p0.length : Int) n s.1 s.2 = some z1) (fun s=>[(4,.int .i64 r36),(5,.sl 16100),(19,.im (.slice (.slice (.int .i32))) p0),(20,.int .i64 (p0.length : Int)),(21,.int .i64 s.1)]) (fun s=>[(16100,some (.rows (.int .i64) s.2))]) K ?_ ?_
   ·exact SP_ren [(16100,1018)] (_,_) h1 ⟨rfl,rfl,rfl,rfl,rfl,tv⟩ ⟨rfl,tv⟩ rfl
   rintro n ⟨x96,x97⟩ h1
   rcases n with _ | n
   ·exact (nsome h1).elim
   replace h1 : quant_Scales.r1 K r36 p0 (p0.length : Int) (quant_Scales.l1 K r36 p0 (p0.length : Int) n) x96 x97 = some z1:=h1
   refine zr ?_
   refine zv 1 rfl ⟨⟨tv,tv,tv⟩,tv⟩ ?_
   refine ze ?_
   refine TC_seq ?_
   refine TC_cond rfl (fun hb=>?_) (fun hb=>?_)
   ·replace h1:=bif_t h1 hb
    refine TC_skip ?_
    refine TE_go ?_
    refine TC_seq ?_
    refine TC_blk ?_
    refine zr ?_
    obtain ⟨g,h1⟩:=gd_t h1
    refine zv 3 rfl ⟨⟨tv,tv,g.1,g.2⟩,⟨tv,tv⟩,tv,tv⟩ ?_
    refine zn ?_
    refine zv 3 rfl ⟨tv,⟨tv,tv⟩,tv,tv⟩ ?_
    refine ze ?_
    obtain ⟨z2,h2,h1⟩:=bnd h1
    refine TC_cut (α:=(List Int)) (fun s=>z2 = s) (fun s=>[(4,.int .i64 r36),(5,.sl 17800),(19,.im (.slice (.slice (.int .i32))) p0),(20,.int .i64 (p0.length : Int)),(21,.int .i64 x96)]) (fun s=>[(17800,some (.rows (.int .i64) s))]) ?_ ?_
    ·refine TC_blk ?_
     refine TC_loop (α:=Int × (List Int)) (fun n s=>quant_Scales.l2 K r36 p0 (p0.length : Int) x96 (Kd.nth (.slice (.int .i32)) p0 (Int.toNat x96)) ((Kd.nth (.slice (.int .i32)) p0 (Int.toNat x96)).length : Int) n s.1 s.2 = some z2) (fun s=>[(4,.int .i64 r36),(5,.sl 18000),(19,.im (.slice (.slice (.int .i32))) p0),(20,.int .i64 (p0.length : Int)),(21,.int .i64 x96),(25,.im (.slice (.int .i32)) (Kd.nth (.slice (.int .i32)) p0 (Int.toNat x96))),(26,.int .i64 ((Kd.nth (.slice (.int .i32)) p0 (Int.toNat x96)).length : Int)),(27,.int .i64 s.1)]) (fun s=>[(18000,some (.rows (.int .i64) s.2))]) K ?_ ?_
     ·exact SP_ren [(18000,16100)] (_,_) h2 ⟨rfl,rfl,rfl,rfl,rfl,rfl,rfl,rfl,tv⟩ ⟨rfl,tv⟩ rfl
     rintro n ⟨x124,x125⟩ h2
     rcases n with _ | n
     ·exact (nsome h2).elim
     replace h2 : quant_Scales.r2 K r36 p0 (p0.length : Int) x96 (Kd.nth (.slice (.int .i32)) p0 (Int.toNat x96)) ((Kd.nth (.slice (.int .i32)) p0 (Int.toNat x96)).length : Int) (quant_Scales.l2 K r36 p0 (p0.length : Int) x96 (Kd.nth (.slice (.int .i32)) p0 (Int.toNat x96)) ((Kd.nth (.slice (.int .i32)) p0 (Int.toNat x96)).length : Int) n) x124 x125 = some z2:=h2
     refine zr ?_
     refine zv 1 rfl ⟨⟨tv,tv,tv⟩,tv⟩ ?_
     refine ze ?_
     refine TC_seq ?_
     refine TC_cond rfl (fun hb=>?_) (fun hb=>?_)
     ·replace h2:=bif_t h2 hb
      refine TC_skip ?_
      refine TE_go ?_
      refine TC_seq ?_
      refine TC_blk ?_
      refine zr ?_
      obtain ⟨g,h2⟩:=gd_t h2
      refine zv 5 rfl ⟨tv,⟨tv,tv,g.1,g.2⟩,⟨tv,tv⟩,tv,tv,tv⟩ ?_
      refine ze ?_
      refine TC_reg ?_
      obtain ⟨g,h2⟩:=gd_t h2
      refine zv 14 rfl ⟨tv,tv,tv,tv,⟨tv,tv,g.1,g.2.1⟩,⟨tv,g.2.2.1⟩,tv,tv,tv,tv,tv,⟨tv,tv,tv,tv⟩,⟨tv,tv,g.2.2.2.1,g.2.2.2.2.1⟩,⟨tv,tv,g.2.2.2.2.2⟩,tv⟩ ?_
      refine TL_end ?_
      refine tbn ?_
      refine zt ?_
      refine zv 2 rfl ⟨⟨tv,tv,tv⟩,tv,tv⟩ ?_
      refine zm ?_
      exact TE_nextr [(18000,18000)] n (zs n) (_,_) h2 ⟨rfl,rfl,rfl,rfl,rfl,rfl,rfl,rfl,tv⟩ ⟨rfl,tv⟩ rfl
     ·replace h2:=bif_f h2 hb
      refine TC_exit ?_
      refine tsx ?_
      refine tsx ?_
      refine tbe ?_
      obtain rfl:=sinj h2
      refine tsn ?_
      exact SP_ren [(17800,18000)] _ rfl ⟨rfl,rfl,rfl,rfl,rfl,tv⟩ ⟨rfl,tv⟩ rfl
    ·rintro x122 hz
     obtain rfl:=hz.symm
     refine tbn ?_
     refine zt ?_
     refine zv 2 rfl ⟨⟨tv,tv,tv⟩,tv,tv⟩ ?_
     refine zm ?_
     exact TE_nextr [(16100,17800)] n (zs n) (_,_) h1 ⟨rfl,rfl,rfl,rfl,rfl,tv⟩ ⟨rfl,tv⟩ rfl
   ·replace h1:=bif_f h1 hb
    refine TC_exit ?_
    refine tsx ?_
    refine tsx ?_
    refine tbe ?_
    obtain rfl:=sinj h1
    refine tsn ?_
    exact SP_ren [(14400,16100)] _ rfl ⟨rfl,rfl,tv⟩ ⟨rfl,tv⟩ rfl
  ·rintro x62 hz
   obtain rfl:=hz.symm
   refine zg ?_
   obtain ⟨g,h0⟩:=gd_t h0
   refine zv 3 rfl ⟨tv,⟨tv,tv,g.1,g.2.1,g.2.2⟩,tv,tv⟩ ?_
   refine ze ?_
   refine TC_seq ?_
   refine zr ?_
   refine zv 3 rfl ⟨tv,⟨tv,tv⟩,tv,tv⟩ ?_
   refine ze ?_
   obtain ⟨z1,h1,h0⟩:=bnd h0
   refine TC_cut (α:=(List Int)) (fun s=>z1 = s) (fun s=>[(10,.sl 14800)]) (fun s=>[(14800,some (.rows (.int .i64) s))]) ?_ ?_
   ·refine TC_blk ?_
    refine TC_loop (α:=Int × (List Int)) (fun n s=>quant_Scales.l0 K (x62.length : Int) x62 n s.1 s.2 = some z1) (fun s=>[(10,.sl 15000),(49,.sl 15001),(50,.int .i64 (x62.length : Int)),(51,.int .i64 s.1)]) (fun s=>[(15000,some (.rows (.int .i64) s.2)),(15001,some (.rows (.int .i64) x62))]) K ?_ ?_
    ·exact SP_ren [(15000,1048),(15001,14400)] (_,_) h1 ⟨rfl,rfl,rfl,rfl,tv⟩ ⟨rfl,rfl,tv⟩ rfl
    rintro n ⟨x74,x75⟩ h1
    rcases n with _ | n
    ·exact (nsome h1).elim
    replace h1 : quant_Scales.r0 K (x62.length : Int) x62 (quant_Scales.l0 K (x62.length : Int) x62 n) x74 x75 = some z1:=h1
    refine zr ?_
    refine zv 1 rfl ⟨⟨tv,tv,tv⟩,tv⟩ ?_
    refine ze ?_
    refine TC_seq ?_
    refine TC_cond rfl (fun hb=>?_) (fun hb=>?_)
    ·replace h1:=bif_t h1 hb
     refine TC_skip ?_
     refine TE_go ?_
     refine TC_seq ?_
     refine TC_blk ?_
     refine zr ?_
     obtain ⟨g,h1⟩:=gd_t h1
     refine zv 5 rfl ⟨tv,⟨tv,tv,g.1,g.2.1⟩,⟨tv,g.2.2⟩,tv,tv,tv⟩ ?_
     refine ze ?_
     refine TC_reg ?_
     refine zv 3 rfl ⟨tv,tv,tv,tv⟩ ?_
     obtain ⟨r83,hr,h1⟩:=bnd h1
     refine TL_callB [] (quant_Scale.ok0 hr) quant_Scale.fnb rfl ⟨tv,⟨tv,tv⟩⟩ rfl tv rfl ?_
     obtain ⟨g,h1⟩:=gd_t h1
     refine zv 2 rfl ⟨⟨tv,tv,g.1,g.2.1⟩,⟨tv,tv,g.2.2⟩,tv⟩ ?_
     refine TL_end ?_
     refine tbn ?_
     refine zt ?_
     refine zv 2 rfl ⟨⟨tv,tv,tv⟩,tv,tv⟩ ?_
     refine zm ?_
     exact TE_nextr [(15000,15000),(15001,15001)] n (zs n) (_,_) h1 ⟨rfl,rfl,rfl,rfl,tv⟩ ⟨rfl,rfl,tv⟩ rfl
    ·replace h1:=bif_f h1 hb
     refine TC_exit ?_
     refine tsx ?_
     refine tsx ?_
     refine tbe ?_
     obtain rfl:=sinj h1
     refine tsn ?_
     exact SP_ren [(14800,15000)] _ rfl ⟨rfl,tv⟩ ⟨rfl,tv⟩ rfl
   ·rintro x71 hz
    obtain rfl:=hz.symm
    refine zg ?_
    refine zv 3 rfl ⟨tv,tv,tv,tv⟩ ?_
    refine ze ?_
    refine TC_ret ?_
    refine TE_frz 14800 rfl ?_
    obtain rfl:=sinj h0
    exact TE_ret env rfl tv tv
theorem quant_Scales.ok0 {K : Nat} {p0 : List (List Int)} {q0 : List Int} {q1 : Int} (h0 : quant_Scales K p0 = some (q0,q1)) : Fn Tryz.prog 78 [.im (.slice (.slice (.int .i32))) p0] [] (.tup [.im (.slice (.int .i64)) q0,.int .i64 q1]) []:=quant_Scales.ok h0
theorem quant_Scales.fnb : fnb Tryz.prog 78 = true:=fnb_of Tryz.func78 rfl
end Go.Fo
