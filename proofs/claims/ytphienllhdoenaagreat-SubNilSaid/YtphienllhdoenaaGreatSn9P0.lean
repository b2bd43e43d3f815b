/- Each call comes to the function that is written for it. -/
import Derived.Test.YtphienllhdoenaaGreatSn9T
import Derived.Test.YtphienllhdoenaaGreatSn9F
import Derived.Test.YtphienllhdoenaaGreatBx
namespace Go.Fo
open Go.Proofs
set_option maxRecDepth 20000
set_option maxHeartbeats 4000000
theorem bank_New.ok0 {K : Nat} (h0 : bank_New K = some ()) : Fn Tryz.prog 21 [] [] (.p 1000 0) [(1000,some (.ab (bkA (List.replicate 388 none) 0 0)))]:=by
 have h : Fn Tryz.prog 21 [] [] (.p 1000 0) [(1000,some (.cells (pst (List.replicate 388 none) 0 0)))]:=by
  refine Fn_of Tryz.func21 rfl (Nat.le_of_ble_eq_true rfl) fun Γ=>?_
  refine zr ?_
  refine zv 1 rfl (by decide) ?_
  refine zn ?_
  refine zv 3 rfl (by decide) ?_
  refine ze ?_
  refine TC_ret ?_
  refine TE_renw (A':=[(0,.p 1000 0)]) (L':=[(1000,some (.cells (pst (List.replicate 388 none) 0 0)))]) [(1000,1002)] ⟨rfl,tv⟩ ⟨rfl,tv⟩ rfl ?_
  exact TE_ret env rfl tv ⟨.inr rfl,tv⟩
 intro X ρ m w vs hp hv
 refine (h X ρ m w vs hp hv).mono ?_
 rintro e w' ⟨ρ',m',v,rfl,h1,h2,h3,h4⟩
 exact ⟨ρ',m',v,rfl,h1,h2.conv (hI:=fun k o b hk hi=>by
   simp only [getO] at hk ⊢
   split at hk
   ·simp only [Option.some.injEq] at hk; subst hk; exact hi.elim
   ·cases hk) (fun k o hk=>by
  simp only [getO] at hk ⊢
  split at hk
  ·rename_i e
   have e' : 1000 = k:=beq_iff_eq.1 e
   subst e'
   simp only [Option.some.injEq] at hk; subst hk
   exact ⟨_,rfl,(osat_abcells (pst_kf _ _ _)).2 (h2.obj 1000 _ rfl)⟩
  ·cases hk),h3,h4⟩
theorem bank_New.fnb : fnb Tryz.prog 21 = true:=fnb_of Tryz.func21 rfl
def psalterylaw14_plain.res  : Unit → MV
 | ()=>.agg [.int .i64 1,.int .i64 0,.int .i64 1,.int .i64 4,.int .i64 4,.int .i64 0,.int .i64 0,.int .i64 2,.int .i64 0,.int .i64 0]
def psalterylaw14_plain.out  : Unit → List (Nat × Option MObj)
 | ()=>[]
theorem psalterylaw14_plain.ok {K : Nat}  {r : Unit} (h0 : psalterylaw14_plain K  = some r) : Fn Tryz.prog 39 [] [] (psalterylaw14_plain.res  r) (psalterylaw14_plain.out  r):=by
 refine Fn_of Tryz.func39 rfl (Nat.le_of_ble_eq_true rfl) fun Γ=>?_
 refine zr ?_
 refine zv 1 rfl ⟨tv,tv⟩ ?_
 refine zn ?_
 refine zv 2 rfl ⟨⟨tv,tv,tv,tv,tv,tv⟩,⟨tv,tv⟩,tv⟩ ?_
 refine ze ?_
 refine TC_ret ?_
 obtain rfl:=sinj h0
 exact TE_ret env rfl ⟨tv,tv⟩ tv
theorem psalterylaw14_plain.ok0 {K : Nat}   (h0 : psalterylaw14_plain K  = some ()) : Fn Tryz.prog 39 [] [] (.agg [.int .i64 1,.int .i64 0,.int .i64 1,.int .i64 4,.int .i64 4,.int .i64 0,.int .i64 0,.int .i64 2,.int .i64 0,.int .i64 0]) []:=psalterylaw14_plain.ok h0
theorem psalterylaw14_plain.fnb : fnb Tryz.prog 39 = true:=fnb_of Tryz.func39 rfl
def format_within.res (_p0 _p1 _p2 : Int) : Bool → MV
 | q0=>.bool q0
def format_within.out (_p0 _p1 _p2 : Int) : Bool → List (Nat × Option MObj)
 | _=>[]
theorem format_within.ok {K : Nat} {p0 p1 p2 : Int} {r : Bool} (h0 : format_within K p0 p1 p2 = some r) : Fn Tryz.prog 183 [.int .i64 p0,.int .i64 p1,.int .i64 p2] [] (format_within.res p0 p1 p2 r) (format_within.out p0 p1 p2 r):=by
 refine Fn_of Tryz.func183 rfl (Nat.le_of_ble_eq_true rfl) fun Γ=>?_
 refine zr ?_
 refine zv 1 rfl ⟨tv,tv⟩ ?_
 refine zn ?_
 refine zv 9 rfl ⟨tv,tv,⟨tv,tv,tv⟩,tv,fun eg=>tv,fun eg=>tv,fun eg=>⟨fun e=>e,fun e=>e,tv⟩,⟨tv,fun e=>e,tv⟩,tv,tv⟩ ?_
 refine ze ?_
 refine TC_ret ?_
 obtain rfl:=sinj h0
 exact TE_ret env rfl tv tv
theorem format_within.ok0 {K : Nat} {p0 p1 p2 : Int} {q0 : Bool} (h0 : format_within K p0 p1 p2 = some q0) : Fn Tryz.prog 183 [.int .i64 p0,.int .i64 p1,.int .i64 p2] [] (.bool q0) []:=format_within.ok h0
theorem format_within.fnb : fnb Tryz.prog 183 = true:=fnb_of Tryz.func183 rfl
def slices_Index_bool_bool.res (_p0 : Bool) (_p1 : List (Bool)) : Int → MV
 | q0=>.int .i64 q0
def slices_Index_bool_bool.out (_p0 : Bool) (p1 : List (Bool)) : Int → List (Nat × Option MObj)
 | _=>[(0,some (.rows (.bool) p1))]
theorem slices_Index_bool_bool.ok {K : Nat} {p0 : Bool} {p1 : List (Bool)} {r : Int} (h0 : slices_Index_bool_bool K p0 p1 = some r) : Fn Tryz.prog 212 [.sl 0,.bool p0] [(0,some (.rows (.bool) p1))] (slices_Index_bool_bool.res p0 p1 r) (slices_Index_bool_bool.out p0 p1 r):=by
 refine Fn_of Tryz.func212 rfl (Nat.le_of_ble_eq_true rfl) fun Γ=>?_
 refine zr ?_
 refine zv 1 rfl ⟨tv,tv⟩ ?_
 refine ze ?_
 refine TC_seq ?_
 refine zr ?_
 refine zv 3 rfl ⟨tv,⟨tv,tv⟩,tv,tv⟩ ?_
 refine ze ?_
 obtain ⟨z1,h1,h0⟩:=bnd h0
 refine TC_cut (α:=Unit) (fun _=>z1 = .inl ()) (fun _=>[]) (fun _=>[(0,some (.rows (.bool) p1))]) ?_ ?_
 ·refine TC_blk ?_
  refine TC_loop (α:=Int) (fun n s=>slices_Index_bool_bool.l0 K p0 (p1.length : Int) p1 n s = some z1) (fun s=>[(0,.sl 0),(1,.bool p0),(7,.int .i64 (p1.length : Int)),(8,.int .i64 s)]) (fun s=>[(0,some (.rows (.bool) p1))]) K ?_ ?_
  ·exact SP_ren [] _ h1 ⟨rfl,rfl,rfl,rfl,tv⟩ ⟨rfl,tv⟩ rfl
  rintro n x5 h1
  rcases n with _ | n
  ·exact (nsome h1).elim
  replace h1 : slices_Index_bool_bool.r0 K p0 (p1.length : Int) p1 (slices_Index_bool_bool.l0 K p0 (p1.length : Int) p1 n) x5 = some z1:=h1
  refine zr ?_
  refine zv 1 rfl ⟨⟨tv,tv,tv⟩,tv⟩ ?_
  refine ze ?_
  refine TC_seq ?_
  refine TC_cond rfl (fun hb=>?_) (fun hb=>?_)
  ·replace h1:=bif_t h1 hb
   refine TC_skip ?_
   refine TE_go ?_
   refine TC_seq ?_
   refine TC_blk ?_
   refine zr ?_
   refine zv 2 rfl ⟨tv,tv,tv⟩ ?_
   refine zn ?_
   obtain ⟨g,h1⟩:=gd_t h1
   refine zv 6 rfl ⟨tv,tv,tv,⟨tv,tv,g.1,g.2.1⟩,⟨tv,g.2.2⟩,⟨tv,tv,tv⟩,tv⟩ ?_
   refine ze ?_
   refine TC_cond rfl (fun hb=>?_) (fun hb=>?_)
   ·replace h1:=bif_t h1 hb
    refine zr ?_
    refine zv 2 rfl ⟨tv,tv,tv⟩ ?_
    refine ze ?_
    refine TC_ret ?_
    refine tbr ?_
    refine tsr ?_
    refine tsr ?_
    refine tbr ?_
    refine tsr ?_
    refine tsr ?_
    obtain rfl:=sinj h1
    obtain rfl:=sinj h0
    exact TE_ret env rfl tv ⟨.inr rfl,tv⟩
   ·replace h1:=bif_f h1 hb
    refine TC_skip ?_
    refine tbn ?_
    refine zt ?_
    refine zv 2 rfl ⟨⟨tv,tv,tv⟩,tv,tv⟩ ?_
    refine zm ?_
    exact TE_nextr [] n (zs n) _ h1 ⟨rfl,rfl,rfl,rfl,tv⟩ ⟨rfl,tv⟩ rfl
  ·replace h1:=bif_f h1 hb
   refine TC_exit ?_
   refine tsx ?_
   refine tsx ?_
   refine tbe ?_
   obtain rfl:=sinj h1
   refine tsn ?_
   exact SP_ren [] () rfl tv ⟨rfl,tv⟩ rfl
 ·rintro ⟨⟩ rfl
  refine zg ?_
  refine zv 1 rfl ⟨tv,tv⟩ ?_
  refine ze ?_
  refine TC_ret ?_
  obtain rfl:=sinj h0
  exact TE_ret env rfl tv ⟨.inr rfl,tv⟩
theorem slices_Index_bool_bool.ok0 {K : Nat} {p0 : Bool} {p1 : List (Bool)} {q0 : Int} (h0 : slices_Index_bool_bool K p0 p1 = some q0) : Fn Tryz.prog 212 [.sl 0,.bool p0] [(0,some (.rows (.bool) p1))] (.int .i64 q0) [(0,some (.rows (.bool) p1))]:=slices_Index_bool_bool.ok h0
theorem slices_Index_bool_bool.fnb : fnb Tryz.prog 212 = true:=fnb_of Tryz.func212 rfl
def slices_Contains_bool_bool.res (_p0 : Bool) (_p1 : List (Bool)) : Bool → MV
 | q0=>.bool q0
def slices_Contains_bool_bool.out (_p0 : Bool) (p1 : List (Bool)) : Bool → List (Nat × Option MObj)
 | _=>[(0,some (.rows (.bool) p1))]
theorem slices_Contains_bool_bool.ok {K : Nat} {p0 : Bool} {p1 : List (Bool)} {r : Bool} (h0 : slices_Contains_bool_bool K p0 p1 = some r) : Fn Tryz.prog 200 [.sl 0,.bool p0] [(0,some (.rows (.bool) p1))] (slices_Contains_bool_bool.res p0 p1 r) (slices_Contains_bool_bool.out p0 p1 r):=by
 refine Fn_of Tryz.func200 rfl (Nat.le_of_ble_eq_true rfl) fun Γ=>?_
 refine zr ?_
 refine zv 1 rfl ⟨tv,tv⟩ ?_
 refine zn ?_
 refine zv 2 rfl ⟨tv,tv,tv⟩ ?_
 obtain ⟨r2,hr,h0⟩:=bnd h0
 refine TL_callB [(0,0)] (slices_Index_bool_bool.ok0 hr) slices_Index_bool_bool.fnb rfl ⟨tv,⟨tv,⟨tv,tv⟩⟩⟩ rfl ⟨.inr rfl,tv⟩ rfl ?_
 refine zv 2 rfl ⟨⟨tv,tv,tv⟩,tv,tv⟩ ?_
 refine ze ?_
 refine TC_ret ?_
 obtain rfl:=sinj h0
 exact TE_ret env rfl tv ⟨.inr rfl,tv⟩
theorem slices_Contains_bool_bool.ok0 {K : Nat} {p0 : Bool} {p1 : List (Bool)} {q0 : Bool} (h0 : slices_Contains_bool_bool K p0 p1 = some q0) : Fn Tryz.prog 200 [.sl 0,.bool p0] [(0,some (.rows (.bool) p1))] (.bool q0) [(0,some (.rows (.bool) p1))]:=slices_Contains_bool_bool.ok h0
theorem slices_Contains_bool_bool.fnb : fnb Tryz.prog 200 = true:=fnb_of Tryz.func200 rfl
def format_all.res (_p0 : List (Bool)) : Bool → MV
 | q0=>.bool q0
def format_all.out (p0 : List (Bool)) : Bool → List (Nat × Option MObj)
 | _=>[(0,some (.rows (.bool) p0))]
theorem format_all.ok {K : Nat} {p0 : List (Bool)} {r : Bool} (h0 : format_all K p0 = some r) : Fn Tryz.prog 182 [.sl 0] [(0,some (.rows (.bool) p0))] (format_all.res p0 r) (format_all.out p0 r):=by
 refine Fn_of Tryz.func182 rfl (Nat.le_of_ble_eq_true rfl) fun Γ=>?_
 refine zr ?_
 refine zv 1 rfl ⟨tv,tv⟩ ?_
 refine zn ?_
 refine zv 1 rfl ⟨tv,tv⟩ ?_
 obtain ⟨r2,hr,h0⟩:=bnd h0
 refine TL_callB [(0,0)] (slices_Contains_bool_bool.ok0 hr) slices_Contains_bool_bool.fnb rfl ⟨tv,⟨tv,⟨tv,tv⟩⟩⟩ rfl ⟨.inr rfl,tv⟩ rfl ?_
 refine zv 2 rfl ⟨tv,tv,tv⟩ ?_
 refine ze ?_
 refine TC_ret ?_
 obtain rfl:=sinj h0
 exact TE_ret env rfl tv ⟨.inr rfl,tv⟩
theorem format_all.ok0 {K : Nat} {p0 : List (Bool)} {q0 : Bool} (h0 : format_all K p0 = some q0) : Fn Tryz.prog 182 [.sl 0] [(0,some (.rows (.bool) p0))] (.bool q0) [(0,some (.rows (.bool) p0))]:=format_all.ok h0
theorem format_all.fnb : fnb Tryz.prog 182 = true:=fnb_of Tryz.func182 rfl
def lapped_lengths.res  : Unit → MV
 | ()=>.agg [.int .i64 40,.int .i64 60,.int .i64 80,.int .i64 120]
def lapped_lengths.out  : Unit → List (Nat × Option MObj)
 | ()=>[]
theorem lapped_lengths.ok {K : Nat}  {r : Unit} (h0 : lapped_lengths K  = some r) : Fn Tryz.prog 201 [] [] (lapped_lengths.res  r) (lapped_lengths.out  r):=by
 refine Fn_of Tryz.func201 rfl (Nat.le_of_ble_eq_true rfl) fun Γ=>?_
 refine zr ?_
 refine zv 1 rfl ⟨tv,tv⟩ ?_
 refine zn ?_
 refine zv 2 rfl ⟨⟨tv,tv,tv,tv,tv⟩,⟨tv,tv⟩,tv⟩ ?_
 refine ze ?_
 refine TC_ret ?_
 obtain rfl:=sinj h0
 exact TE_ret env rfl ⟨tv,tv⟩ tv
theorem lapped_lengths.ok0 {K : Nat}   (h0 : lapped_lengths K  = some ()) : Fn Tryz.prog 201 [] [] (.agg [.int .i64 40,.int .i64 60,.int .i64 80,.int .i64 120]) []:=lapped_lengths.ok h0
theorem lapped_lengths.fnb : fnb Tryz.prog 201 = true:=fnb_of Tryz.func201 rfl
def lapped_Lengths.res  : (List Int) → MV
 | q0=>.im (.slice (.int .i64)) q0
def lapped_Lengths.out  : (List Int) → List (Nat × Option MObj)
 | _=>[]
theorem lapped_Lengths.ok {K : Nat}  {r : (List Int)} (h0 : lapped_Lengths K  = some r) : Fn Tryz.prog 184 [] [] (lapped_Lengths.res  r) (lapped_Lengths.out  r):=by
 refine Fn_of Tryz.func184 rfl (Nat.le_of_ble_eq_true rfl) fun Γ=>?_
 unfold lapped_Lengths at h0
 refine zr ?_
 refine zv 1 rfl ⟨tv,tv⟩ ?_
 refine zn ?_
 obtain ⟨⟨⟩,hr,h0⟩:=bnd h0
 refine TL_callB [] (lapped_lengths.ok0 hr) lapped_lengths.fnb rfl ⟨tv,tv⟩ rfl tv rfl ?_
 refine zv 2 rfl ⟨tv,⟨tv,tv⟩,tv⟩ ?_
 refine zn ?_
 refine TL_frzc 1001 (.pair (.int .i64) (.pair (.int .i64) (.pair (.int .i64) (.int .i64)))) (40,(60,(80,120))) rfl ?_
 refine zv 2 rfl ⟨⟨tv,tv,tv,(by decide),(by decide),(by decide)⟩,tv,tv⟩ ?_
 refine ze ?_
 refine TC_ret ?_
 obtain rfl:=sinj h0
 exact TE_ret env rfl tv tv
theorem lapped_Lengths.ok0 {K : Nat}  {q0 : List Int} (h0 : lapped_Lengths K  = some q0) : Fn Tryz.prog 184 [] [] (.im (.slice (.int .i64)) q0) []:=lapped_Lengths.ok h0
theorem lapped_Lengths.fnb : fnb Tryz.prog 184 = true:=fnb_of Tryz.func184 rfl
def slices_Index_int_int.res (_p0 : List Int) (_p1 : Int) : Int → MV
 | q0=>.int .i64 q0
def slices_Index_int_int.out (_p0 : List Int) (_p1 : Int) : Int → List (Nat × Option MObj)
 | _=>[]
theorem slices_Index_int_int.ok {K : Nat} {p0 : List Int} {p1 r : Int} (h0 : slices_Index_int_int K p0 p1 = some r) : Fn Tryz.prog 177 [.im (.slice (.int .i64)) p0,.int .i64 p1] [] (slices_Index_int_int.res p0 p1 r) (slices_Index_int_int.out p0 p1 r):=by
 refine Fn_of Tryz.func177 rfl (Nat.le_of_ble_eq_true rfl) fun Γ=>?_
 refine zr ?_
 refine zv 1 rfl ⟨tv,tv⟩ ?_
 refine ze ?_
 refine TC_seq ?_
 refine zr ?_
 refine zv 3 rfl ⟨tv,⟨tv,tv⟩,tv,tv⟩ ?_
 refine ze ?_
 obtain ⟨z1,h1,h0⟩:=bnd h0
 refine TC_cut (α:=Unit) (fun _=>z1 = .inl ()) (fun _=>[]) (fun _=>[]) ?_ ?_
 ·refine TC_blk ?_
  refine TC_loop (α:=Int) (fun n s=>slices_Index_int_int.l0 K p0 p1 (p0.length : Int) n s = some z1) (fun s=>[(0,.im (.slice (.int .i64)) p0),(1,.int .i64 p1),(7,.int .i64 (p0.length : Int)),(8,.int .i64 s)]) (fun s=>[]) K ?_ ?_
  ·exact SP_ren [] _ h1 ⟨rfl,rfl,rfl,rfl,tv⟩ tv rfl
  rintro n x5 h1
  rcases n with _ | n
  ·exact (nsome h1).elim
  replace h1 : slices_Index_int_int.r0 K p0 p1 (p0.length : Int) (slices_Index_int_int.l0 K p0 p1 (p0.length : Int) n) x5 = some z1:=h1
  refine zr ?_
  refine zv 1 rfl ⟨⟨tv,tv,tv⟩,tv⟩ ?_
  refine ze ?_
  refine TC_seq ?_
  refine TC_cond rfl (fun hb=>?_) (fun hb=>?_)
  ·replace h1:=bif_t h1 hb
   refine TC_skip ?_
   refine TE_go ?_
   refine TC_seq ?_
   refine TC_blk ?_
   refine zr ?_
   refine zv 2 rfl ⟨tv,tv,tv⟩ ?_
   refine zn ?_
   obtain ⟨g,h1⟩:=gd_t h1
   refine zv 6 rfl ⟨tv,tv,tv,⟨tv,tv,g.1,g.2⟩,⟨tv,tv⟩,⟨tv,tv,tv⟩,tv⟩ ?_
   refine ze ?_
   refine TC_cond rfl (fun hb=>?_) (fun hb=>?_)
   ·replace h1:=bif_t h1 hb
    refine zr ?_
    refine zv 2 rfl ⟨tv,tv,tv⟩ ?_
    refine ze ?_
    refine TC_ret ?_
    refine tbr ?_
    refine tsr ?_
    refine tsr ?_
    refine tbr ?_
    refine tsr ?_
    refine tsr ?_
    obtain rfl:=sinj h1
    obtain rfl:=sinj h0
    exact TE_ret env rfl tv tv
   ·replace h1:=bif_f h1 hb
    refine TC_skip ?_
    refine tbn ?_
    refine zt ?_
    refine zv 2 rfl ⟨⟨tv,tv,tv⟩,tv,tv⟩ ?_
    refine zm ?_
    exact TE_nextr [] n (zs n) _ h1 ⟨rfl,rfl,rfl,rfl,tv⟩ tv rfl
  ·replace h1:=bif_f h1 hb
   refine TC_exit ?_
   refine tsx ?_
   refine tsx ?_
   refine tbe ?_
   obtain rfl:=sinj h1
   refine tsn ?_
   exact SP_ren [] () rfl tv tv rfl
 ·rintro ⟨⟩ rfl
  refine zg ?_
  refine zv 1 rfl ⟨tv,tv⟩ ?_
  refine ze ?_
  refine TC_ret ?_
  obtain rfl:=sinj h0
  exact TE_ret env rfl tv tv
theorem slices_Index_int_int.ok0 {K : Nat} {p0 : List Int} {p1 q0 : Int} (h0 : slices_Index_int_int K p0 p1 = some q0) : Fn Tryz.prog 177 [.im (.slice (.int .i64)) p0,.int .i64 p1] [] (.int .i64 q0) []:=slices_Index_int_int.ok h0
theorem slices_Index_int_int.fnb : fnb Tryz.prog 177 = true:=fnb_of Tryz.func177 rfl
def slices_Contains_int_int.res (_p0 : List Int) (_p1 : Int) : Bool → MV
 | q0=>.bool q0
def slices_Contains_int_int.out (_p0 : List Int) (_p1 : Int) : Bool → List (Nat × Option MObj)
 | _=>[]
theorem slices_Contains_int_int.ok {K : Nat} {p0 : List Int} {p1 : Int} {r : Bool} (h0 : slices_Contains_int_int K p0 p1 = some r) : Fn Tryz.prog 134 [.im (.slice (.int .i64)) p0,.int .i64 p1] [] (slices_Contains_int_int.res p0 p1 r) (slices_Contains_int_int.out p0 p1 r):=by
 refine Fn_of Tryz.func134 rfl (Nat.le_of_ble_eq_true rfl) fun Γ=>?_
 refine zr ?_
 refine zv 1 rfl ⟨tv,tv⟩ ?_
 refine zn ?_
 refine zv 2 rfl ⟨tv,tv,tv⟩ ?_
 obtain ⟨r2,hr,h0⟩:=bnd h0
 refine TL_callB [] (slices_Index_int_int.ok0 hr) slices_Index_int_int.fnb rfl ⟨tv,⟨tv,⟨tv,tv⟩⟩⟩ rfl tv rfl ?_
 refine zv 2 rfl ⟨⟨tv,tv,tv⟩,tv,tv⟩ ?_
 refine ze ?_
 refine TC_ret ?_
 obtain rfl:=sinj h0
 exact TE_ret env rfl tv tv
theorem slices_Contains_int_int.ok0 {K : Nat} {p0 : List Int} {p1 : Int} {q0 : Bool} (h0 : slices_Contains_int_int K p0 p1 = some q0) : Fn Tryz.prog 134 [.im (.slice (.int .i64)) p0,.int .i64 p1] [] (.bool q0) []:=slices_Contains_int_int.ok h0
theorem slices_Contains_int_int.fnb : fnb Tryz.prog 134 = true:=fnb_of Tryz.func134 rfl
def format_fields.res (_p0 _p1 _p2 _p3 _p4 _p5 _p6 _p7 _p8 _p9 : Int) : Bool → MV
 | q0=>.bool q0
def format_fields.out (_p0 _p1 _p2 _p3 _p4 _p5 _p6 _p7 _p8 _p9 : Int) : Bool → List (Nat × Option MObj)
 | _=>[]
theorem format_fields.ok {K : Nat} {p0 p1 p2 p3 p4 p5 p6 p7 p8 p9 : Int} {r : Bool} (h0 : format_fields K p0 p1 p2 p3 p4 p5 p6 p7 p8 p9 = some r) : Fn Tryz.prog 152 [.agg [.int .i64 p0,.int .i64 p1,.int .i64 p2,.int .i64 p3,.int .i64 p4,.int .i64 p5,.int .i64 p6,.int .i64 p7,.int .i64 p8,.int .i64 p9]] [] (format_fields.res p0 p1 p2 p3 p4 p5 p6 p7 p8 p9 r) (format_fields.out p0 p1 p2 p3 p4 p5 p6 p7 p8 p9 r):=by
 refine Fn_of Tryz.func152 rfl (Nat.le_of_ble_eq_true rfl) fun Γ=>?_
 unfold format_fields at h0
 refine zr ?_
 refine zv 2 rfl ⟨tv,tv,tv⟩ ?_
 refine ze ?_
 refine TC_seq ?_
 refine TC_renw (A':=[(1,.p 1001 0)]) (L':=[(1001,some (.cells [.int .i64 _,.int .i64 _,.int .i64 _,.int .i64 _,.int .i64 _,.int .i64 _,.int .i64 _,.int .i64 _,.int .i64 _,.int .i64 _]))]) [] ⟨rfl,tv⟩ ⟨rfl,tv⟩ rfl ?_
 refine zd [[],[0],[1,0],[],[3],[4,3,2,1,0],[5,4,3,2,1,0],[6,5,4,3,2,1,0],[7,6,5,4,3,2,1,0]] [[],[],[],[],[],[],[1010],[1010],[]] [[],[],[],[],[],[],[1010],[],[]] [[],[],[],[],[],[],[],[],[]] (by kernel_rfl) (by kernel_rfl) ?_
 refine zj 1 rfl rfl rfl tv ?_
 refine zj 2 rfl rfl rfl ⟨tv,tv⟩ ?_
 obtain ⟨r64,hr,h0⟩:=bnd h0
 refine AJR_call 3 rfl (Nat.le_of_ble_eq_true rfl) [] rfl (format_within.ok0 hr) format_within.fnb rfl ⟨tv,⟨tv,⟨tv,⟨tv,tv⟩⟩⟩⟩ rfl tv rfl ?_
 refine zj 4 rfl rfl rfl tv ?_
 refine zj 5 rfl rfl rfl ⟨tv,tv⟩ ?_
 obtain ⟨r65,hr,h0⟩:=bnd h0
 refine AJR_call 6 rfl (Nat.le_of_ble_eq_true rfl) [] rfl (format_within.ok0 hr) format_within.fnb rfl ⟨tv,⟨tv,⟨tv,⟨tv,tv⟩⟩⟩⟩ rfl tv rfl ?_
 refine zj 7 rfl rfl rfl ⟨tv,tv,tv⟩ ?_
 obtain ⟨r66,hr,h0⟩:=bnd h0
 refine AJR_call 8 rfl (Nat.le_of_ble_eq_true rfl) [(0,1010)] rfl (format_all.ok0 hr) format_all.fnb rfl ⟨tv,⟨tv,tv⟩⟩ rfl ⟨.inr rfl,tv⟩ rfl ?_
 refine zj 9 rfl rfl rfl tv ?_
 refine AJR_end rfl rfl rfl ?_
 refine TE_go ?_
 refine TC_seq ?_
 refine zr ?_
 refine zv 2 rfl ⟨tv,⟨tv,tv⟩,tv⟩ ?_
 refine ze ?_
 refine TC_blk ?_
 refine zr ?_
 refine zv 2 rfl ⟨⟨tv,tv,tv⟩,tv,tv⟩ ?_
 refine ze ?_
 refine TC_cond rfl (fun hb=>?_) (fun hb=>?_)
 ·replace h0:=bif_t h0 hb
  refine TC_seq ?_
  obtain ⟨z1,h1,h0⟩:=bnd h0
  refine TC_cut (α:=Bool) (fun s=>z1 = s) (fun s=>[(2,.bool s)]) (fun s=>[]) ?_ ?_
  ·refine TC_renw (A':=[(1,.p 1001 0),(3,.bool _)]) (L':=[(1001,some (.cells [.int .i64 _,.int .i64 _,.int .i64 _,.int .i64 _,.int .i64 _,.int .i64 _,.int .i64 _,.int .i64 _,.int .i64 _,.int .i64 _]))]) [] ⟨rfl,rfl,tv⟩ ⟨rfl,tv⟩ rfl ?_
   refine zd [[],[0],[1,0],[2,1,0],[3,2,1,0],[4,3,2,1,0],[5,4,3,2,1,0],[6,5,4,3,2,1,0],[7,6,5,4,3,2,1,0],[8,7,6,5,4,3,2,1,0],[1,0],[10,1,0],[11,10,1,0],[12,11,10,1,0],[13,12,11,10,5,4,3,2,1,0],[14,13,12,11,10,5,4,3,2,1,0],[15,14,13,12,11,10,5,4,3,2,1,0],[16,15,14,13,12,11,10,5,4,3,2,1,0],[17,16,15,14,13,12,11,10,5,4,3,2,1,0],[1,0],[19,1,0],[20,19,17,16,15,14,13,12,11,10,5,4,3,2,1,0],[1,0],[22,1,0],[1,0],[24,1,0],[25,24,1,0],[26,25,24,23,22,21,20,19,17,16,15,14,13,12,11,10,5,4,3,2,1,0],[1,0],[28,1,0],[1,0],[30,1,0],[31,30,1,0],[1,0],[33,1,0],[34,33,32,31,30,1,0],[35,34,33,32,31,30,1,0],[36,35,34,33,32,31,30,29,28,27,26,25,24,23,22,21,20,19,17,16,15,14,13,12,11,10,5,4,3,2,1,0],[1,0],[38,1,0],[39,38,1,0],[40,39,38,37,36,35,34,33,32,31,30,29,28,27,26,25,24,23,22,21,20,19,17,16,15,14,13,12,11,10,5,4,3,2,1,0],[41,40,39,38,37,36,35,34,33,32,31,30,29,28,27,26,25,24,23,22,21,20,19,17,16,15,14,13,12,11,10,5,4,3,2,1,0],[42,41,40,39,38,37,36,35,34,33,32,31,30,29,28,27,26,25,24,23,22,21,20,19,17,16,15,14,13,12,11,10,5,4,3,2,1,0],[43,42,41,40,39,38,37,36,35,34,33,32,31,30,29,28,27,26,25,24,23,22,21,20,19,17,16,15,14,13,12,11,10,5,4,3,2,1,0],[44,43,42,41,40,39,38,37,36,35,34,33,32,31,30,29,28,27,26,25,24,23,22,21,20,19,17,16,15,14,13,12,11,10,5,4,3,2,1,0],[45,44,43,42,41,40,39,38,37,36,35,34,33,32,31,30,29,28,27,26,25,24,23,22,21,20,19,18,17,16,15,14,13,12,11,10,9,8,7,6,5,4,3,2,1,0],[46,45,44,43,42,41,40,39,38,37,36,35,34,33,32,31,30,29,28,27,26,25,24,23,22,21,20,19,18,17,16,15,14,13,12,11,10,9,8,7,6,5,4,3,2,1,0],[47,46,45,44,43,42,41,40,39,38,37,36,35,34,33,32,31,30,29,28,27,26,25,24,23,22,21,20,19,18,17,16,15,14,13,12,11,10,9,8,7,6,5,4,3,2,1,0],[48,47,46,45,44,43,42,41,40,39,38,37,36,35,34,33,32,31,30,29,28,27,26,25,24,23,22,21,20,19,18,17,16,15,14,13,12,11,10,9,8,7,6,5,4,3,2,1,0]] [[],[],[],[],[],[],[],[],[],[],[],[],[],[],[],[],[],[],[],[],[],[],[],[],[],[],[],[],[],[],[],[],[],[],[],[],[],[],[],[],[],[],[],[],[],[],[1062],[1062],[],[]] [[],[],[],[],[],[],[],[],[],[],[],[],[],[],[],[],[],[],[],[],[],[],[],[],[],[],[],[],[],[],[],[],[],[],[],[],[],[],[],[],[],[],[],[],[],[],[1062],[],[],[]] [[],[],[],[],[],[],[],[],[],[],[],[],[],[],[],[],[],[],[],[],[],[],[],[],[],[],[],[],[],[],[],[],[],[],[],[],[],[],[],[],[],[],[],[],[],[],[],[],[],[]] (by kernel_rfl) (by kernel_rfl) ?_
   refine zj 1 rfl rfl rfl tv ?_
   refine zj 2 rfl rfl rfl tv ?_
   refine bif_split h1 (fun hb115 h1=>?_) (fun hb115 h1=>?_)
   ·refine AJR_gev env 3 rfl (Nat.le_of_ble_eq_true rfl) hb115 rfl rfl rfl rfl rfl rfl tv ?_
    refine AJR_gev env 4 rfl (Nat.le_of_ble_eq_true rfl) hb115 rfl rfl rfl rfl rfl rfl ⟨tv,tv⟩ ?_
    refine AJR_gev env 5 rfl (Nat.le_of_ble_eq_true rfl) hb115 rfl rfl rfl rfl rfl rfl ⟨tv,⟨tv,tv⟩⟩ ?_
    refine AJR_gev env 6 rfl (Nat.le_of_ble_eq_true rfl) hb115 rfl rfl rfl rfl rfl rfl tv ?_
    refine zj 7 rfl rfl rfl (fun eg=>tv) ?_
    refine zj 8 rfl rfl rfl (fun eg=>⟨fun e=>e,tv⟩) ?_
    refine zj 9 rfl rfl rfl (fun eg=>⟨fun e=>e,tv,tv⟩) ?_
    refine AJR_gev env 10 rfl (Nat.le_of_ble_eq_true rfl) hb115 rfl rfl rfl rfl rfl rfl ⟨tv,⟨tv,fun e=>e⟩⟩ ?_
    refine AJR_gev env 11 rfl (Nat.le_of_ble_eq_true rfl) hb115 rfl rfl rfl rfl rfl rfl tv ?_
    refine AJR_gev env 12 rfl (Nat.le_of_ble_eq_true rfl) hb115 rfl rfl rfl rfl rfl rfl ⟨tv,tv⟩ ?_
    refine AJR_gev env 13 rfl (Nat.le_of_ble_eq_true rfl) hb115 rfl rfl rfl rfl rfl rfl ⟨tv,⟨tv,(by decide)⟩⟩ ?_
    refine AJR_gev env 14 rfl (Nat.le_of_ble_eq_true rfl) hb115 rfl rfl rfl rfl rfl rfl ⟨tv,⟨tv,tv⟩⟩ ?_
    refine AJR_gev env 15 rfl (Nat.le_of_ble_eq_true rfl) hb115 rfl rfl rfl rfl rfl rfl tv ?_
    refine bif_split h1 (fun hb118 h1=>?_) (fun hb118 h1=>?_)
    ·refine AJR_gev env 16 rfl (Nat.le_of_ble_eq_true rfl) hb118 rfl rfl rfl rfl rfl rfl tv ?_
     refine AJR_gev env 17 rfl (Nat.le_of_ble_eq_true rfl) hb118 rfl rfl rfl rfl rfl rfl ⟨tv,tv⟩ ?_
     obtain ⟨r119,hr,h1⟩:=bnd h1
     refine AJR_gcall 18 rfl (Nat.le_of_ble_eq_true rfl) hb118 [] rfl rfl rfl rfl rfl (format_within.ok0 hr) format_within.fnb rfl ⟨tv,⟨tv,⟨tv,⟨tv,tv⟩⟩⟩⟩ rfl tv rfl ?_
     refine AJR_gev env 19 rfl (Nat.le_of_ble_eq_true rfl) hb115 rfl rfl rfl rfl rfl rfl ⟨tv,⟨tv,tv⟩⟩ ?_
     refine AJR_gev env 20 rfl (Nat.le_of_ble_eq_true rfl) hb115 rfl rfl rfl rfl rfl rfl tv ?_
     refine AJR_gev env 21 rfl (Nat.le_of_ble_eq_true rfl) hb115 rfl rfl rfl rfl rfl rfl ⟨tv,tv⟩ ?_
     obtain ⟨r121,hr,h1⟩:=bnd h1
     refine AJR_gcall 22 rfl (Nat.le_of_ble_eq_true rfl) hb115 [] rfl rfl rfl rfl rfl (format_within.ok0 hr) format_within.fnb rfl ⟨tv,⟨tv,⟨tv,⟨tv,tv⟩⟩⟩⟩ rfl tv rfl ?_
     refine AJR_gev env 23 rfl (Nat.le_of_ble_eq_true rfl) hb115 rfl rfl rfl rfl rfl rfl tv ?_
     refine AJR_gev env 24 rfl (Nat.le_of_ble_eq_true rfl) hb115 rfl rfl rfl rfl rfl rfl ⟨tv,tv⟩ ?_
     refine AJR_gev env 25 rfl (Nat.le_of_ble_eq_true rfl) hb115 rfl rfl rfl rfl rfl rfl tv ?_
     refine AJR_gev env 26 rfl (Nat.le_of_ble_eq_true rfl) hb115 rfl rfl rfl rfl rfl rfl ⟨tv,tv⟩ ?_
     refine AJR_gev env 27 rfl (Nat.le_of_ble_eq_true rfl) hb115 rfl rfl rfl rfl rfl rfl ⟨tv,⟨tv,tv⟩⟩ ?_
     obtain ⟨r123,hr,h1⟩:=bnd h1
     refine AJR_gcall 28 rfl (Nat.le_of_ble_eq_true rfl) hb115 [] rfl rfl rfl rfl rfl (format_within.ok0 hr) format_within.fnb rfl ⟨tv,⟨tv,⟨tv,⟨tv,tv⟩⟩⟩⟩ rfl tv rfl ?_
     refine AJR_gev env 29 rfl (Nat.le_of_ble_eq_true rfl) hb115 rfl rfl rfl rfl rfl rfl tv ?_
     refine AJR_gev env 30 rfl (Nat.le_of_ble_eq_true rfl) hb115 rfl rfl rfl rfl rfl rfl ⟨tv,tv⟩ ?_
     refine AJR_gev env 31 rfl (Nat.le_of_ble_eq_true rfl) hb115 rfl rfl rfl rfl rfl rfl tv ?_
     refine AJR_gev env 32 rfl (Nat.le_of_ble_eq_true rfl) hb115 rfl rfl rfl rfl rfl rfl ⟨tv,tv⟩ ?_
     refine AJR_gev env 33 rfl (Nat.le_of_ble_eq_true rfl) hb115 rfl rfl rfl rfl rfl rfl ⟨tv,⟨tv,tv⟩⟩ ?_
     refine AJR_gev env 34 rfl (Nat.le_of_ble_eq_true rfl) hb115 rfl rfl rfl rfl rfl rfl tv ?_
     refine AJR_gev env 35 rfl (Nat.le_of_ble_eq_true rfl) hb115 rfl rfl rfl rfl rfl rfl ⟨tv,tv⟩ ?_
     refine AJR_gev env 36 rfl (Nat.le_of_ble_eq_true rfl) hb115 rfl rfl rfl rfl rfl rfl ⟨tv,⟨tv,tv⟩⟩ ?_
     refine AJR_gev env 37 rfl (Nat.le_of_ble_eq_true rfl) hb115 rfl rfl rfl rfl rfl rfl ⟨tv,⟨tv,tv⟩⟩ ?_
     obtain ⟨r127,hr,h1⟩:=bnd h1
     refine AJR_gcall 38 rfl (Nat.le_of_ble_eq_true rfl) hb115 [] rfl rfl rfl rfl rfl (format_within.ok0 hr) format_within.fnb rfl ⟨tv,⟨tv,⟨tv,⟨tv,tv⟩⟩⟩⟩ rfl tv rfl ?_
     refine AJR_gev env 39 rfl (Nat.le_of_ble_eq_true rfl) hb115 rfl rfl rfl rfl rfl rfl tv ?_
     refine AJR_gev env 40 rfl (Nat.le_of_ble_eq_true rfl) hb115 rfl rfl rfl rfl rfl rfl ⟨tv,tv⟩ ?_
     refine AJR_gev env 41 rfl (Nat.le_of_ble_eq_true rfl) hb115 rfl rfl rfl rfl rfl rfl ⟨tv,⟨tv,tv⟩⟩ ?_
     refine AJR_gev env 42 rfl (Nat.le_of_ble_eq_true rfl) hb115 rfl rfl rfl rfl rfl rfl tv ?_
     refine zj 43 rfl rfl rfl (fun eg=>tv) ?_
     refine zj 44 rfl rfl rfl (fun eg=>⟨fun e=>e,tv⟩) ?_
     refine zj 45 rfl rfl rfl (fun eg=>⟨fun e=>e,tv,tv⟩) ?_
     refine AJR_gev env 46 rfl (Nat.le_of_ble_eq_true rfl) hb115 rfl rfl rfl rfl rfl rfl ⟨tv,⟨fun e=>e,tv⟩⟩ ?_
     refine AJR_gev env 47 rfl (Nat.le_of_ble_eq_true rfl) hb115 rfl rfl rfl rfl rfl rfl ⟨tv,⟨tv,⟨tv,⟨tv,⟨tv,⟨tv,tv⟩⟩⟩⟩⟩⟩ ?_
     obtain ⟨r130,hr,h1⟩:=bnd h1
     refine AJR_gcall 48 rfl (Nat.le_of_ble_eq_true rfl) hb115 [(0,1062)] rfl rfl rfl rfl rfl (format_all.ok0 hr) format_all.fnb rfl ⟨tv,⟨tv,tv⟩⟩ rfl ⟨.inr rfl,tv⟩ rfl ?_
     refine zj 49 rfl rfl rfl ⟨tv,tv,tv⟩ ?_
     refine zj 50 rfl rfl rfl tv ?_
     refine AJR_end rfl rfl rfl ?_
     obtain rfl:=sinj h1
     refine tsn ?_
     exact SP_ren [] _ rfl ⟨rfl,tv⟩ tv rfl
    ·refine AJR_gskip (.bool false) 16 rfl (Nat.le_of_ble_eq_true rfl) hb118 rfl rfl rfl rfl rfl rfl (by decide) ?_
     refine AJR_gskip (.bool false) 17 rfl (Nat.le_of_ble_eq_true rfl) hb118 rfl rfl rfl rfl rfl rfl (by decide) ?_
     refine AJR_gskip (.bool false) 18 rfl (Nat.le_of_ble_eq_true rfl) hb118 rfl rfl rfl rfl rfl rfl (by decide) ?_
     refine AJR_gev env 19 rfl (Nat.le_of_ble_eq_true rfl) hb115 rfl rfl rfl rfl rfl rfl ⟨tv,⟨fun e=>(tff (e.symm.trans hb118)).elim,tv⟩⟩ ?_
     refine AJR_gev env 20 rfl (Nat.le_of_ble_eq_true rfl) hb115 rfl rfl rfl rfl rfl rfl tv ?_
     refine AJR_gev env 21 rfl (Nat.le_of_ble_eq_true rfl) hb115 rfl rfl rfl rfl rfl rfl ⟨tv,tv⟩ ?_
     obtain ⟨r133,hr,h1⟩:=bnd h1
     refine AJR_gcall 22 rfl (Nat.le_of_ble_eq_true rfl) hb115 [] rfl rfl rfl rfl rfl (format_within.ok0 hr) format_within.fnb rfl ⟨tv,⟨tv,⟨tv,⟨tv,tv⟩⟩⟩⟩ rfl tv rfl ?_
     refine AJR_gev env 23 rfl (Nat.le_of_ble_eq_true rfl) hb115 rfl rfl rfl rfl rfl rfl tv ?_
     refine AJR_gev env 24 rfl (Nat.le_of_ble_eq_true rfl) hb115 rfl rfl rfl rfl rfl rfl ⟨tv,tv⟩ ?_
     refine AJR_gev env 25 rfl (Nat.le_of_ble_eq_true rfl) hb115 rfl rfl rfl rfl rfl rfl tv ?_
     refine AJR_gev env 26 rfl (Nat.le_of_ble_eq_true rfl) hb115 rfl rfl rfl rfl rfl rfl ⟨tv,tv⟩ ?_
     refine AJR_gev env 27 rfl (Nat.le_of_ble_eq_true rfl) hb115 rfl rfl rfl rfl rfl rfl ⟨tv,⟨tv,tv⟩⟩ ?_
     obtain ⟨r135,hr,h1⟩:=bnd h1
     refine AJR_gcall 28 rfl (Nat.le_of_ble_eq_true rfl) hb115 [] rfl rfl rfl rfl rfl (format_within.ok0 hr) format_within.fnb rfl ⟨tv,⟨tv,⟨tv,⟨tv,tv⟩⟩⟩⟩ rfl tv rfl ?_
     refine AJR_gev env 29 rfl (Nat.le_of_ble_eq_true rfl) hb115 rfl rfl rfl rfl rfl rfl tv ?_
     refine AJR_gev env 30 rfl (Nat.le_of_ble_eq_true rfl) hb115 rfl rfl rfl rfl rfl rfl ⟨tv,tv⟩ ?_
     refine AJR_gev env 31 rfl (Nat.le_of_ble_eq_true rfl) hb115 rfl rfl rfl rfl rfl rfl tv ?_
     refine AJR_gev env 32 rfl (Nat.le_of_ble_eq_true rfl) hb115 rfl rfl rfl rfl rfl rfl ⟨tv,tv⟩ ?_
     refine AJR_gev env 33 rfl (Nat.le_of_ble_eq_true rfl) hb115 rfl rfl rfl rfl rfl rfl ⟨tv,⟨tv,tv⟩⟩ ?_
     refine AJR_gev env 34 rfl (Nat.le_of_ble_eq_true rfl) hb115 rfl rfl rfl rfl rfl rfl tv ?_
     refine AJR_gev env 35 rfl (Nat.le_of_ble_eq_true rfl) hb115 rfl rfl rfl rfl rfl rfl ⟨tv,tv⟩ ?_
     refine AJR_gev env 36 rfl (Nat.le_of_ble_eq_true rfl) hb115 rfl rfl rfl rfl rfl rfl ⟨tv,⟨tv,tv⟩⟩ ?_
     refine AJR_gev env 37 rfl (Nat.le_of_ble_eq_true rfl) hb115 rfl rfl rfl rfl rfl rfl ⟨tv,⟨tv,tv⟩⟩ ?_
     obtain ⟨r139,hr,h1⟩:=bnd h1
     refine AJR_gcall 38 rfl (Nat.le_of_ble_eq_true rfl) hb115 [] rfl rfl rfl rfl rfl (format_within.ok0 hr) format_within.fnb rfl ⟨tv,⟨tv,⟨tv,⟨tv,tv⟩⟩⟩⟩ rfl tv rfl ?_
     refine AJR_gev env 39 rfl (Nat.le_of_ble_eq_true rfl) hb115 rfl rfl rfl rfl rfl rfl tv ?_
     refine AJR_gev env 40 rfl (Nat.le_of_ble_eq_true rfl) hb115 rfl rfl rfl rfl rfl rfl ⟨tv,tv⟩ ?_
     refine AJR_gev env 41 rfl (Nat.le_of_ble_eq_true rfl) hb115 rfl rfl rfl rfl rfl rfl ⟨tv,⟨tv,tv⟩⟩ ?_
     refine AJR_gev env 42 rfl (Nat.le_of_ble_eq_true rfl) hb115 rfl rfl rfl rfl rfl rfl tv ?_
     refine zj 43 rfl rfl rfl (fun eg=>tv) ?_
     refine zj 44 rfl rfl rfl (fun eg=>⟨fun e=>e,tv⟩) ?_
     refine zj 45 rfl rfl rfl (fun eg=>⟨fun e=>e,tv,tv⟩) ?_
     refine AJR_gev env 46 rfl (Nat.le_of_ble_eq_true rfl) hb115 rfl rfl rfl rfl rfl rfl ⟨tv,⟨fun e=>e,tv⟩⟩ ?_
     refine AJR_gev env 47 rfl (Nat.le_of_ble_eq_true rfl) hb115 rfl rfl rfl rfl rfl rfl ⟨tv,⟨tv,⟨tv,⟨tv,⟨tv,⟨tv,tv⟩⟩⟩⟩⟩⟩ ?_
     obtain ⟨r142,hr,h1⟩:=bnd h1
     refine AJR_gcall 48 rfl (Nat.le_of_ble_eq_true rfl) hb115 [(0,1062)] rfl rfl rfl rfl rfl (format_all.ok0 hr) format_all.fnb rfl ⟨tv,⟨tv,tv⟩⟩ rfl ⟨.inr rfl,tv⟩ rfl ?_
     refine zj 49 rfl rfl rfl ⟨tv,tv,tv⟩ ?_
     refine zj 50 rfl rfl rfl tv ?_
     refine AJR_end rfl rfl rfl ?_
     obtain rfl:=sinj h1
     refine tsn ?_
     exact SP_ren [] _ rfl ⟨rfl,tv⟩ tv rfl
   ·refine AJR_gskip (.bool false) 3 rfl (Nat.le_of_ble_eq_true rfl) hb115 rfl rfl rfl rfl rfl rfl (by decide) ?_
    refine AJR_gskip (.bool false) 4 rfl (Nat.le_of_ble_eq_true rfl) hb115 rfl rfl rfl rfl rfl rfl (by decide) ?_
    refine AJR_gskip (.bool false) 5 rfl (Nat.le_of_ble_eq_true rfl) hb115 rfl rfl rfl rfl rfl rfl (by decide) ?_
    refine AJR_gskip (.bool false) 6 rfl (Nat.le_of_ble_eq_true rfl) hb115 rfl rfl rfl rfl rfl rfl (by decide) ?_
    refine AJR_gskipU (.bool false) 7 rfl (Nat.le_of_ble_eq_true rfl) rfl rfl rfl rfl rfl rfl (by decide) ?_
    refine AJR_gskipU (.bool false) 8 rfl (Nat.le_of_ble_eq_true rfl) rfl rfl rfl rfl rfl rfl (by decide) ?_
    refine AJR_gskipU (.bool false) 9 rfl (Nat.le_of_ble_eq_true rfl) rfl rfl rfl rfl rfl rfl (by decide) ?_
    refine AJR_gskip (.bool false) 10 rfl (Nat.le_of_ble_eq_true rfl) hb115 rfl rfl rfl rfl rfl rfl (by decide) ?_
    refine AJR_gskip (.bool false) 11 rfl (Nat.le_of_ble_eq_true rfl) hb115 rfl rfl rfl rfl rfl rfl (by decide) ?_
    refine AJR_gskip (.bool false) 12 rfl (Nat.le_of_ble_eq_true rfl) hb115 rfl rfl rfl rfl rfl rfl (by decide) ?_
    refine AJR_gskip (.bool false) 13 rfl (Nat.le_of_ble_eq_true rfl) hb115 rfl rfl rfl rfl rfl rfl (by decide) ?_
    refine AJR_gskip (.bool false) 14 rfl (Nat.le_of_ble_eq_true rfl) hb115 rfl rfl rfl rfl rfl rfl (by decide) ?_
    refine AJR_gskip (.bool false) 15 rfl (Nat.le_of_ble_eq_true rfl) hb115 rfl rfl rfl rfl rfl rfl (by decide) ?_
    refine AJR_gskipU (.bool false) 16 rfl (Nat.le_of_ble_eq_true rfl) rfl rfl rfl rfl rfl rfl (by decide) ?_
    refine AJR_gskipU (.bool false) 17 rfl (Nat.le_of_ble_eq_true rfl) rfl rfl rfl rfl rfl rfl (by decide) ?_
    refine AJR_gskipU (.bool false) 18 rfl (Nat.le_of_ble_eq_true rfl) rfl rfl rfl rfl rfl rfl (by decide) ?_
    refine AJR_gskip (.bool false) 19 rfl (Nat.le_of_ble_eq_true rfl) hb115 rfl rfl rfl rfl rfl rfl (by decide) ?_
    refine AJR_gskip (.bool false) 20 rfl (Nat.le_of_ble_eq_true rfl) hb115 rfl rfl rfl rfl rfl rfl (by decide) ?_
    refine AJR_gskip (.bool false) 21 rfl (Nat.le_of_ble_eq_true rfl) hb115 rfl rfl rfl rfl rfl rfl (by decide) ?_
    refine AJR_gskip (.bool false) 22 rfl (Nat.le_of_ble_eq_true rfl) hb115 rfl rfl rfl rfl rfl rfl (by decide) ?_
    refine AJR_gskip (.bool false) 23 rfl (Nat.le_of_ble_eq_true rfl) hb115 rfl rfl rfl rfl rfl rfl (by decide) ?_
    refine AJR_gskip (.bool false) 24 rfl (Nat.le_of_ble_eq_true rfl) hb115 rfl rfl rfl rfl rfl rfl (by decide) ?_
    refine AJR_gskip (.bool false) 25 rfl (Nat.le_of_ble_eq_true rfl) hb115 rfl rfl rfl rfl rfl rfl (by decide) ?_
    refine AJR_gskip (.bool false) 26 rfl (Nat.le_of_ble_eq_true rfl) hb115 rfl rfl rfl rfl rfl rfl (by decide) ?_
    refine AJR_gskip (.bool false) 27 rfl (Nat.le_of_ble_eq_true rfl) hb115 rfl rfl rfl rfl rfl rfl (by decide) ?_
    refine AJR_gskip (.bool false) 28 rfl (Nat.le_of_ble_eq_true rfl) hb115 rfl rfl rfl rfl rfl rfl (by decide) ?_
    refine AJR_gskip (.bool false) 29 rfl (Nat.le_of_ble_eq_true rfl) hb115 rfl rfl rfl rfl rfl rfl (by decide) ?_
    refine AJR_gskip (.bool false) 30 rfl (Nat.le_of_ble_eq_true rfl) hb115 rfl rfl rfl rfl rfl rfl (by decide) ?_
    refine AJR_gskip (.bool false) 31 rfl (Nat.le_of_ble_eq_true rfl) hb115 rfl rfl rfl rfl rfl rfl (by decide) ?_
    refine AJR_gskip (.bool false) 32 rfl (Nat.le_of_ble_eq_true rfl) hb115 rfl rfl rfl rfl rfl rfl (by decide) ?_
    refine AJR_gskip (.bool false) 33 rfl (Nat.le_of_ble_eq_true rfl) hb115 rfl rfl rfl rfl rfl rfl (by decide) ?_
    refine AJR_gskip (.bool false) 34 rfl (Nat.le_of_ble_eq_true rfl) hb115 rfl rfl rfl rfl rfl rfl (by decide) ?_
    refine AJR_gskip (.bool false) 35 rfl (Nat.le_of_ble_eq_true rfl) hb115 rfl rfl rfl rfl rfl rfl (by decide) ?_
    refine AJR_gskip (.bool false) 36 rfl (Nat.le_of_ble_eq_true rfl) hb115 rfl rfl rfl rfl rfl rfl (by decide) ?_
    refine AJR_gskip (.bool false) 37 rfl (Nat.le_of_ble_eq_true rfl) hb115 rfl rfl rfl rfl rfl rfl (by decide) ?_
    refine AJR_gskip (.bool false) 38 rfl (Nat.le_of_ble_eq_true rfl) hb115 rfl rfl rfl rfl rfl rfl (by decide) ?_
    refine AJR_gskip (.bool false) 39 rfl (Nat.le_of_ble_eq_true rfl) hb115 rfl rfl rfl rfl rfl rfl (by decide) ?_
    refine AJR_gskip (.bool false) 40 rfl (Nat.le_of_ble_eq_true rfl) hb115 rfl rfl rfl rfl rfl rfl (by decide) ?_
    refine AJR_gskip (.bool false) 41 rfl (Nat.le_of_ble_eq_true rfl) hb115 rfl rfl rfl rfl rfl rfl (by decide) ?_
    refine AJR_gskip (.bool false) 42 rfl (Nat.le_of_ble_eq_true rfl) hb115 rfl rfl rfl rfl rfl rfl (by decide) ?_
    refine AJR_gskipU (.bool false) 43 rfl (Nat.le_of_ble_eq_true rfl) rfl rfl rfl rfl rfl rfl (by decide) ?_
    refine AJR_gskipU (.bool false) 44 rfl (Nat.le_of_ble_eq_true rfl) rfl rfl rfl rfl rfl rfl (by decide) ?_
    refine AJR_gskipU (.bool false) 45 rfl (Nat.le_of_ble_eq_true rfl) rfl rfl rfl rfl rfl rfl (by decide) ?_
    refine AJR_gskip (.bool false) 46 rfl (Nat.le_of_ble_eq_true rfl) hb115 rfl rfl rfl rfl rfl rfl (by decide) ?_
    refine AJR_gskip (.bool false) 47 rfl (Nat.le_of_ble_eq_true rfl) hb115 rfl rfl rfl rfl rfl rfl (by decide) ?_
    refine AJR_gskip (.bool false) 48 rfl (Nat.le_of_ble_eq_true rfl) hb115 rfl rfl rfl rfl rfl rfl (by decide) ?_
    refine zj 49 rfl rfl rfl ⟨tv,fun e=>(tff (e.symm.trans hb115)).elim,tv⟩ ?_
    refine zj 50 rfl rfl rfl tv ?_
    refine AJR_end rfl rfl rfl ?_
    obtain rfl:=sinj h1
    refine tsn ?_
    exact SP_ren [] _ rfl ⟨rfl,tv⟩ tv rfl
  ·rintro x114 hz
   obtain rfl:=hz.symm
   refine zu ?_
   refine tbr ?_
   refine tsr ?_
   obtain rfl:=sinj h0
   exact TE_ret env rfl tv tv
 ·replace h0:=bif_f h0 hb
  refine zr ?_
  refine zv 2 rfl ⟨⟨tv,tv,tv⟩,tv,tv⟩ ?_
  refine ze ?_
  refine TC_cond rfl (fun hb=>?_) (fun hb=>?_)
  ·replace h0:=bif_t h0 hb
   refine TC_seq ?_
   obtain ⟨z1,h1,h0⟩:=bnd h0
   refine TC_cut (α:=Bool) (fun s=>z1 = s) (fun s=>[(2,.bool s)]) (fun s=>[]) ?_ ?_
   ·refine TC_renw (A':=[(1,.p 1001 0),(3,.bool _)]) (L':=[(1001,some (.cells [.int .i64 _,.int .i64 _,.int .i64 _,.int .i64 _,.int .i64 _,.int .i64 _,.int .i64 _,.int .i64 _,.int .i64 _,.int .i64 _]))]) [] ⟨rfl,rfl,tv⟩ ⟨rfl,tv⟩ rfl ?_
    refine zd [[],[0],[1,0],[1,0],[3,1,0],[4,3,2,1,0],[1,0],[6,1,0],[7,6,5,4,3,2,1,0],[1,0],[9,1,0],[10,9,1,0],[11,10,9,8,7,6,5,4,3,2,1,0],[12,11,10,9,8,7,6,5,4,3,2,1,0],[13,12,11,10,9,8,7,6,5,4,3,2,1,0],[14,13,12,11,10,9,8,7,6,5,4,3,2,1,0],[15,14,13,12,11,10,9,8,7,6,5,4,3,2,1,0],[16,15,14,13,12,11,10,9,8,7,6,5,4,3,2,1,0],[17,16,15,14,13,12,11,10,9,8,7,6,5,4,3,2,1,0],[18,17,16,15,14,13,12,11,10,9,8,7,6,5,4,3,2,1,0],[19,18,17,16,15,14,13,12,11,10,9,8,7,6,5,4,3,2,1,0],[20,19,18,17,16,15,14,13,12,11,10,9,8,7,6,5,4,3,2,1,0],[21,20,19,18,17,16,15,14,13,12,11,10,9,8,7,6,5,4,3,2,1,0],[22,21,20,19,18,17,16,15,14,13,12,11,10,9,8,7,6,5,4,3,2,1,0],[23,22,21,20,19,18,17,16,15,14,13,12,11,10,9,8,7,6,5,4,3,2,1,0],[24,23,22,21,20,19,18,17,16,15,14,13,12,11,10,9,8,7,6,5,4,3,2,1,0],[25,24,23,22,21,20,19,18,17,16,15,14,13,12,11,10,9,8,7,6,5,4,3,2,1,0],[26,25,24,23,22,21,20,19,18,17,16,15,14,13,12,11,10,9,8,7,6,5,4,3,2,1,0],[27,26,25,24,23,22,21,20,19,18,17,16,15,14,13,12,11,10,9,8,7,6,5,4,3,2,1,0],[28,27,26,25,24,23,22,21,20,19,18,17,16,15,14,13,12,11,10,9,8,7,6,5,4,3,2,1,0],[29,28,27,26,25,24,23,22,21,20,19,18,17,16,15,14,13,12,11,10,9,8,7,6,5,4,3,2,1,0],[30,29,28,27,26,25,24,23,22,21,20,19,18,17,16,15,14,13,12,11,10,9,8,7,6,5,4,3,2,1,0],[31,30,29,28,27,26,25,24,23,22,21,20,19,18,17,16,15,14,13,12,11,10,9,8,7,6,5,4,3,2,1,0],[32,31,30,29,28,27,26,25,24,23,22,21,20,19,18,17,16,15,14,13,12,11,10,9,8,7,6,5,4,3,2,1,0],[33,32,31,30,29,28,27,26,25,24,23,22,21,20,19,18,17,16,15,14,13,12,11,10,9,8,7,6,5,4,3,2,1,0],[34,33,32,31,30,29,28,27,26,25,24,23,22,21,20,19,18,17,16,15,14,13,12,11,10,9,8,7,6,5,4,3,2,1,0]] [[],[],[],[],[],[],[],[],[],[],[],[],[],[],[],[],[],[],[],[],[],[],[],[],[],[],[],[],[],[],[],[],[1099],[1099],[],[]] [[],[],[],[],[],[],[],[],[],[],[],[],[],[],[],[],[],[],[],[],[],[],[],[],[],[],[],[],[],[],[],[],[1099],[],[],[]] [[],[],[],[],[],[],[],[],[],[],[],[],[],[],[],[],[],[],[],[],[],[],[],[],[],[],[],[],[],[],[],[],[],[],[],[]] (by kernel_rfl) (by kernel_rfl) ?_
    refine zj 1 rfl rfl rfl tv ?_
    refine zj 2 rfl rfl rfl tv ?_
    refine bif_split h1 (fun hb157 h1=>?_) (fun hb157 h1=>?_)
    ·obtain ⟨r158,hr,h1⟩:=bnd h1
     refine AJR_gcall 3 rfl (Nat.le_of_ble_eq_true rfl) hb157 [] rfl rfl rfl rfl rfl (lapped_Lengths.ok0 hr) lapped_Lengths.fnb rfl ⟨tv,tv⟩ rfl tv rfl ?_
     refine AJR_gev env 4 rfl (Nat.le_of_ble_eq_true rfl) hb157 rfl rfl rfl rfl rfl rfl tv ?_
     refine AJR_gev env 5 rfl (Nat.le_of_ble_eq_true rfl) hb157 rfl rfl rfl rfl rfl rfl ⟨tv,tv⟩ ?_
     obtain ⟨r159,hr,h1⟩:=bnd h1
     refine AJR_gcall 6 rfl (Nat.le_of_ble_eq_true rfl) hb157 [] rfl rfl rfl rfl rfl (slices_Contains_int_int.ok0 hr) slices_Contains_int_int.fnb rfl ⟨tv,⟨tv,⟨tv,tv⟩⟩⟩ rfl tv rfl ?_
     refine AJR_gev env 7 rfl (Nat.le_of_ble_eq_true rfl) hb157 rfl rfl rfl rfl rfl rfl tv ?_
     refine AJR_gev env 8 rfl (Nat.le_of_ble_eq_true rfl) hb157 rfl rfl rfl rfl rfl rfl ⟨tv,tv⟩ ?_
     obtain ⟨r160,hr,h1⟩:=bnd h1
     refine AJR_gcall 9 rfl (Nat.le_of_ble_eq_true rfl) hb157 [] rfl rfl rfl rfl rfl (format_within.ok0 hr) format_within.fnb rfl ⟨tv,⟨tv,⟨tv,⟨tv,tv⟩⟩⟩⟩ rfl tv rfl ?_
     refine AJR_gev env 10 rfl (Nat.le_of_ble_eq_true rfl) hb157 rfl rfl rfl rfl rfl rfl tv ?_
     refine AJR_gev env 11 rfl (Nat.le_of_ble_eq_true rfl) hb157 rfl rfl rfl rfl rfl rfl ⟨tv,tv⟩ ?_
     refine AJR_gev env 12 rfl (Nat.le_of_ble_eq_true rfl) hb157 rfl rfl rfl rfl rfl rfl ⟨tv,⟨tv,tv⟩⟩ ?_
     refine AJR_gev env 13 rfl (Nat.le_of_ble_eq_true rfl) hb157 rfl rfl rfl rfl rfl rfl tv ?_
     refine zj 14 rfl rfl rfl (fun eg=>tv) ?_
     refine zj 15 rfl rfl rfl (fun eg=>⟨fun e=>e,tv⟩) ?_
     refine zj 16 rfl rfl rfl (fun eg=>⟨fun e=>e,tv,tv⟩) ?_
     refine AJR_gev env 17 rfl (Nat.le_of_ble_eq_true rfl) hb157 rfl rfl rfl rfl rfl rfl ⟨tv,⟨fun e=>e,tv⟩⟩ ?_
     refine AJR_gev env 18 rfl (Nat.le_of_ble_eq_true rfl) hb157 rfl rfl rfl rfl rfl rfl tv ?_
     refine zj 19 rfl rfl rfl (fun eg=>tv) ?_
     refine zj 20 rfl rfl rfl (fun eg=>⟨fun e=>e,tv⟩) ?_
     refine zj 21 rfl rfl rfl (fun eg=>⟨fun e=>e,tv,tv⟩) ?_
     refine AJR_gev env 22 rfl (Nat.le_of_ble_eq_true rfl) hb157 rfl rfl rfl rfl rfl rfl ⟨tv,⟨fun e=>e,tv⟩⟩ ?_
     refine AJR_gev env 23 rfl (Nat.le_of_ble_eq_true rfl) hb157 rfl rfl rfl rfl rfl rfl tv ?_
     refine zj 24 rfl rfl rfl (fun eg=>tv) ?_
     refine zj 25 rfl rfl rfl (fun eg=>⟨fun e=>e,tv⟩) ?_
     refine zj 26 rfl rfl rfl (fun eg=>⟨fun e=>e,tv,tv⟩) ?_
     refine AJR_gev env 27 rfl (Nat.le_of_ble_eq_true rfl) hb157 rfl rfl rfl rfl rfl rfl ⟨tv,⟨fun e=>e,tv⟩⟩ ?_
     refine AJR_gev env 28 rfl (Nat.le_of_ble_eq_true rfl) hb157 rfl rfl rfl rfl rfl rfl tv ?_
     refine zj 29 rfl rfl rfl (fun eg=>tv) ?_
     refine zj 30 rfl rfl rfl (fun eg=>⟨fun e=>e,tv⟩) ?_
     refine zj 31 rfl rfl rfl (fun eg=>⟨fun e=>e,tv,tv⟩) ?_
     refine AJR_gev env 32 rfl (Nat.le_of_ble_eq_true rfl) hb157 rfl rfl rfl rfl rfl rfl ⟨tv,⟨fun e=>e,tv⟩⟩ ?_
     refine AJR_gev env 33 rfl (Nat.le_of_ble_eq_true rfl) hb157 rfl rfl rfl rfl rfl rfl ⟨tv,⟨tv,⟨tv,tv⟩⟩⟩ ?_
     obtain ⟨r166,hr,h1⟩:=bnd h1
     refine AJR_gcall 34 rfl (Nat.le_of_ble_eq_true rfl) hb157 [(0,1099)] rfl rfl rfl rfl rfl (format_all.ok0 hr) format_all.fnb rfl ⟨tv,⟨tv,tv⟩⟩ rfl ⟨.inr rfl,tv⟩ rfl ?_
     refine zj 35 rfl rfl rfl ⟨tv,tv,tv⟩ ?_
     refine zj 36 rfl rfl rfl tv ?_
     refine AJR_end rfl rfl rfl ?_
     obtain rfl:=sinj h1
     refine tsn ?_
     exact SP_ren [] _ rfl ⟨rfl,tv⟩ tv rfl
    ·refine AJR_gskip (.bool false) 3 rfl (Nat.le_of_ble_eq_true rfl) hb157 rfl rfl rfl rfl rfl rfl (by decide) ?_
     refine AJR_gskip (.bool false) 4 rfl (Nat.le_of_ble_eq_true rfl) hb157 rfl rfl rfl rfl rfl rfl (by decide) ?_
     refine AJR_gskip (.bool false) 5 rfl (Nat.le_of_ble_eq_true rfl) hb157 rfl rfl rfl rfl rfl rfl (by decide) ?_
     refine AJR_gskip (.bool false) 6 rfl (Nat.le_of_ble_eq_true rfl) hb157 rfl rfl rfl rfl rfl rfl (by decide) ?_
     refine AJR_gskip (.bool false) 7 rfl (Nat.le_of_ble_eq_true rfl) hb157 rfl rfl rfl rfl rfl rfl (by decide) ?_
     refine AJR_gskip (.bool false) 8 rfl (Nat.le_of_ble_eq_true rfl) hb157 rfl rfl rfl rfl rfl rfl (by decide) ?_
     refine AJR_gskip (.bool false) 9 rfl (Nat.le_of_ble_eq_true rfl) hb157 rfl rfl rfl rfl rfl rfl (by decide) ?_
     refine AJR_gskip (.bool false) 10 rfl (Nat.le_of_ble_eq_true rfl) hb157 rfl rfl rfl rfl rfl rfl (by decide) ?_
     refine AJR_gskip (.bool false) 11 rfl (Nat.le_of_ble_eq_true rfl) hb157 rfl rfl rfl rfl rfl rfl (by decide) ?_
     refine AJR_gskip (.bool false) 12 rfl (Nat.le_of_ble_eq_true rfl) hb157 rfl rfl rfl rfl rfl rfl (by decide) ?_
     refine AJR_gskip (.bool false) 13 rfl (Nat.le_of_ble_eq_true rfl) hb157 rfl rfl rfl rfl rfl rfl (by decide) ?_
     refine AJR_gskipU (.bool false) 14 rfl (Nat.le_of_ble_eq_true rfl) rfl rfl rfl rfl rfl rfl (by decide) ?_
     refine AJR_gskipU (.bool false) 15 rfl (Nat.le_of_ble_eq_true rfl) rfl rfl rfl rfl rfl rfl (by decide) ?_
     refine AJR_gskipU (.bool false) 16 rfl (Nat.le_of_ble_eq_true rfl) rfl rfl rfl rfl rfl rfl (by decide) ?_
     refine AJR_gskip (.bool false) 17 rfl (Nat.le_of_ble_eq_true rfl) hb157 rfl rfl rfl rfl rfl rfl (by decide) ?_
     refine AJR_gskip (.bool false) 18 rfl (Nat.le_of_ble_eq_true rfl) hb157 rfl rfl rfl rfl rfl rfl (by decide) ?_
     refine AJR_gskipU (.bool false) 19 rfl (Nat.le_of_ble_eq_true rfl) rfl rfl rfl rfl rfl rfl (by decide) ?_
     refine AJR_gskipU (.bool false) 20 rfl (Nat.le_of_ble_eq_true rfl) rfl rfl rfl rfl rfl rfl (by decide) ?_
     refine AJR_gskipU (.bool false) 21 rfl (Nat.le_of_ble_eq_true rfl) rfl rfl rfl rfl rfl rfl (by decide) ?_
     refine AJR_gskip (.bool false) 22 rfl (Nat.le_of_ble_eq_true rfl) hb157 rfl rfl rfl rfl rfl rfl (by decide) ?_
     refine AJR_gskip (.bool false) 23 rfl (Nat.le_of_ble_eq_true rfl) hb157 rfl rfl rfl rfl rfl rfl (by decide) ?_
     refine AJR_gskipU (.bool false) 24 rfl (Nat.le_of_ble_eq_true rfl) rfl rfl rfl rfl rfl rfl (by decide) ?_
     refine AJR_gskipU (.bool false) 25 rfl (Nat.le_of_ble_eq_true rfl) rfl rfl rfl rfl rfl rfl (by decide) ?_
     refine AJR_gskipU (.bool false) 26 rfl (Nat.le_of_ble_eq_true rfl) rfl rfl rfl rfl rfl rfl (by decide) ?_
     refine AJR_gskip (.bool false) 27 rfl (Nat.le_of_ble_eq_true rfl) hb157 rfl rfl rfl rfl rfl rfl (by decide) ?_
     refine AJR_gskip (.bool false) 28 rfl (Nat.le_of_ble_eq_true rfl) hb157 rfl rfl rfl rfl rfl rfl (by decide) ?_
     refine AJR_gskipU (.bool false) 29 rfl (Nat.le_of_ble_eq_true rfl) rfl rfl rfl rfl rfl rfl (by decide) ?_
     refine AJR_gskipU (.bool false) 30 rfl (Nat.le_of_ble_eq_true rfl) rfl rfl rfl rfl rfl rfl (by decide) ?_
     refine AJR_gskipU (.bool false) 31 rfl (Nat.le_of_ble_eq_true rfl) rfl rfl rfl rfl rfl rfl (by decide) ?_
     refine AJR_gskip (.bool false) 32 rfl (Nat.le_of_ble_eq_true rfl) hb157 rfl rfl rfl rfl rfl rfl (by decide) ?_
     refine AJR_gskip (.bool false) 33 rfl (Nat.le_of_ble_eq_true rfl) hb157 rfl rfl rfl rfl rfl rfl (by decide) ?_
     refine AJR_gskip (.bool false) 34 rfl (Nat.le_of_ble_eq_true rfl) hb157 rfl rfl rfl rfl rfl rfl (by decide) ?_
     refine zj 35 rfl rfl rfl ⟨tv,fun e=>(tff (e.symm.trans hb157)).elim,tv⟩ ?_
     refine zj 36 rfl rfl rfl tv ?_
     refine AJR_end rfl rfl rfl ?_
     obtain rfl:=sinj h1
     refine tsn ?_
     exact SP_ren [] _ rfl ⟨rfl,tv⟩ tv rfl
   ·rintro x156 hz
    obtain rfl:=hz.symm
    refine zu ?_
    refine tbr ?_
    refine tsr ?_
    obtain rfl:=sinj h0
    exact TE_ret env rfl tv tv
  ·replace h0:=bif_f h0 hb
   refine TC_skip ?_
   refine tbn ?_
   refine zg ?_
   refine zv 1 rfl ⟨tv,tv⟩ ?_
   refine ze ?_
   refine TC_ret ?_
   obtain rfl:=sinj h0
   exact TE_ret env rfl tv tv
theorem format_fields.ok0 {K : Nat} {p0 p1 p2 p3 p4 p5 p6 p7 p8 p9 : Int} {q0 : Bool} (h0 : format_fields K p0 p1 p2 p3 p4 p5 p6 p7 p8 p9 = some q0) : Fn Tryz.prog 152 [.agg [.int .i64 p0,.int .i64 p1,.int .i64 p2,.int .i64 p3,.int .i64 p4,.int .i64 p5,.int .i64 p6,.int .i64 p7,.int .i64 p8,.int .i64 p9]] [] (.bool q0) []:=format_fields.ok h0
theorem format_fields.fnb : fnb Tryz.prog 152 = true:=fnb_of Tryz.func152 rfl
def format_bits.res (_p0 _p1 _p2 _p3 _p4 _p5 _p6 _p7 _p8 _p9 : Int) : Int → MV
 | q0=>.int .i64 q0
def format_bits.out (_p0 _p1 _p2 _p3 _p4 _p5 _p6 _p7 _p8 _p9 : Int) : Int → List (Nat × Option MObj)
 | _=>[]
theorem format_bits.ok {K : Nat} {p0 p1 p2 p3 p4 p5 p6 p7 p8 p9 r : Int} (h0 : format_bits K p0 p1 p2 p3 p4 p5 p6 p7 p8 p9 = some r) : Fn Tryz.prog 157 [.agg [.int .i64 p0,.int .i64 p1,.int .i64 p2,.int .i64 p3,.int .i64 p4,.int .i64 p5,.int .i64 p6,.int .i64 p7,.int .i64 p8,.int .i64 p9]] [] (format_bits.res p0 p1 p2 p3 p4 p5 p6 p7 p8 p9 r) (format_bits.out p0 p1 p2 p3 p4 p5 p6 p7 p8 p9 r):=by
 refine Fn_of Tryz.func157 rfl (Nat.le_of_ble_eq_true rfl) fun Γ=>?_
 refine zr ?_
 refine zv 2 rfl ⟨tv,tv,tv⟩ ?_
 refine ze ?_
 refine TC_seq ?_
 refine zr ?_
 refine zv 3 rfl ⟨tv,⟨tv,tv⟩,⟨tv,tv,tv⟩,tv⟩ ?_
 refine ze ?_
 refine TC_cond rfl (fun hb=>?_) (fun hb=>?_)
 ·replace h0:=bif_t h0 hb
  refine zr ?_
  refine zv 4 rfl ⟨tv,⟨tv,tv⟩,⟨tv,tv,tv⟩,tv,tv⟩ ?_
  refine ze ?_
  refine TC_ret ?_
  refine tsr ?_
  obtain rfl:=sinj h0
  exact TE_ret env rfl tv tv
 ·replace h0:=bif_f h0 hb
  refine TC_skip ?_
  refine zg ?_
  refine zv 20 rfl ⟨tv,⟨tv,tv⟩,tv,⟨tv,tv⟩,⟨tv,tv,tv⟩,⟨tv,tv,tv⟩,tv,⟨tv,tv⟩,⟨tv,tv,tv⟩,tv,⟨tv,tv⟩,⟨tv,tv,tv⟩,⟨tv,tv,tv⟩,tv,⟨tv,tv⟩,tv,⟨tv,tv⟩,⟨tv,tv,tv⟩,⟨tv,tv,tv⟩,tv,tv⟩ ?_
  refine ze ?_
  refine TC_ret ?_
  obtain rfl:=sinj h0
  exact TE_ret env rfl tv tv
theorem format_bits.ok0 {K : Nat} {p0 p1 p2 p3 p4 p5 p6 p7 p8 p9 q0 : Int} (h0 : format_bits K p0 p1 p2 p3 p4 p5 p6 p7 p8 p9 = some q0) : Fn Tryz.prog 157 [.agg [.int .i64 p0,.int .i64 p1,.int .i64 p2,.int .i64 p3,.int .i64 p4,.int .i64 p5,.int .i64 p6,.int .i64 p7,.int .i64 p8,.int .i64 p9]] [] (.int .i64 q0) []:=format_bits.ok h0
theorem format_bits.fnb : fnb Tryz.prog 157 = true:=fnb_of Tryz.func157 rfl
def format_payload.res (_p0 _p1 _p2 _p3 _p4 _p5 _p6 _p7 _p8 _p9 : Int) : Int → MV
 | q0=>.int .i64 q0
def format_payload.out (_p0 _p1 _p2 _p3 _p4 _p5 _p6 _p7 _p8 _p9 : Int) : Int → List (Nat × Option MObj)
 | _=>[]
theorem format_payload.ok {K : Nat} {p0 p1 p2 p3 p4 p5 p6 p7 p8 p9 r : Int} (h0 : format_payload K p0 p1 p2 p3 p4 p5 p6 p7 p8 p9 = some r) : Fn Tryz.prog 105 [.agg [.int .i64 p0,.int .i64 p1,.int .i64 p2,.int .i64 p3,.int .i64 p4,.int .i64 p5,.int .i64 p6,.int .i64 p7,.int .i64 p8,.int .i64 p9]] [] (format_payload.res p0 p1 p2 p3 p4 p5 p6 p7 p8 p9 r) (format_payload.out p0 p1 p2 p3 p4 p5 p6 p7 p8 p9 r):=by
 refine Fn_of Tryz.func105 rfl (Nat.le_of_ble_eq_true rfl) fun Γ=>?_
 refine zr ?_
 refine zv 2 rfl ⟨tv,tv,tv⟩ ?_
 refine ze ?_
 refine TC_seq ?_
 refine zr ?_
 refine zv 3 rfl ⟨tv,⟨tv,tv⟩,⟨tv,tv,tv⟩,tv⟩ ?_
 refine ze ?_
 refine TC_cond rfl (fun hb=>?_) (fun hb=>?_)
 ·replace h0:=bif_t h0 hb
  refine zr ?_
  refine zv 6 rfl ⟨tv,⟨tv,tv⟩,tv,⟨tv,tv⟩,⟨tv,tv,tv⟩,tv,tv⟩ ?_
  refine ze ?_
  refine TC_ret ?_
  refine tsr ?_
  obtain rfl:=sinj h0
  exact TE_ret env rfl tv tv
 ·replace h0:=bif_f h0 hb
  refine TC_skip ?_
  refine zg ?_
  refine zv 1 rfl ⟨⟨tv,tv⟩,tv⟩ ?_
  obtain ⟨r3,hr,h0⟩:=bnd h0
  refine TL_callB [] (format_bits.ok0 hr) format_bits.fnb rfl ⟨tv,⟨tv,tv⟩⟩ rfl tv rfl ?_
  refine zv 3 rfl ⟨⟨tv,tv,tv⟩,⟨tv,tv,(by decide)⟩,tv,tv⟩ ?_
  refine ze ?_
  refine TC_ret ?_
  obtain rfl:=sinj h0
  exact TE_ret env rfl tv tv
theorem format_payload.ok0 {K : Nat} {p0 p1 p2 p3 p4 p5 p6 p7 p8 p9 q0 : Int} (h0 : format_payload K p0 p1 p2 p3 p4 p5 p6 p7 p8 p9 = some q0) : Fn Tryz.prog 105 [.agg [.int .i64 p0,.int .i64 p1,.int .i64 p2,.int .i64 p3,.int .i64 p4,.int .i64 p5,.int .i64 p6,.int .i64 p7,.int .i64 p8,.int .i64 p9]] [] (.int .i64 q0) []:=format_payload.ok h0
theorem format_payload.fnb : fnb Tryz.prog 105 = true:=fnb_of Tryz.func105 rfl
def format_Check.res (_p0 _p1 _p2 _p3 _p4 _p5 _p6 _p7 _p8 _p9 : Int) : Int → MV
 | q0=>.int .i64 q0
def format_Check.out (_p0 _p1 _p2 _p3 _p4 _p5 _p6 _p7 _p8 _p9 : Int) : Int → List (Nat × Option MObj)
 | _=>[]
theorem format_Check.ok {K : Nat} {p0 p1 p2 p3 p4 p5 p6 p7 p8 p9 r : Int} (h0 : format_Check K p0 p1 p2 p3 p4 p5 p6 p7 p8 p9 = some r) : Fn Tryz.prog 98 [.agg [.int .i64 p0,.int .i64 p1,.int .i64 p2,.int .i64 p3,.int .i64 p4,.int .i64 p5,.int .i64 p6,.int .i64 p7,.int .i64 p8,.int .i64 p9]] [] (format_Check.res p0 p1 p2 p3 p4 p5 p6 p7 p8 p9 r) (format_Check.out p0 p1 p2 p3 p4 p5 p6 p7 p8 p9 r):=by
 refine Fn_of Tryz.func98 rfl (Nat.le_of_ble_eq_true rfl) fun Γ=>?_
 refine zr ?_
 refine zv 2 rfl ⟨tv,tv,tv⟩ ?_
 refine ze ?_
 refine TC_seq ?_
 refine TC_seq ?_
 obtain ⟨z1,h1,h0⟩:=bnd h0
 refine TC_cut (α:=Bool) (fun s=>z1 = s) (fun s=>[(10,.bool s)]) (fun s=>[]) ?_ ?_
 ·refine TC_reg ?_
  refine zv 1 rfl ⟨⟨tv,tv⟩,tv⟩ ?_
  obtain ⟨r7,hr,h1⟩:=bnd h1
  refine TL_callB [] (format_fields.ok0 hr) format_fields.fnb rfl ⟨tv,⟨tv,tv⟩⟩ rfl tv rfl ?_
  refine zv 2 rfl ⟨tv,tv,tv⟩ ?_
  refine TL_split 6 rfl (fun hb=>?_) (fun hb=>?_)
  ·replace h1:=bif_t h1 hb
   refine TL_gf (.bool false) rfl rfl rfl rfl rfl (by decide) ?_
   refine TL_gf (.bool false) rfl rfl rfl rfl rfl (by decide) ?_
   refine TL_gf (.bool false) rfl rfl rfl rfl rfl (by decide) ?_
   refine zv 1 rfl ⟨⟨tv,tv,fun e=>e⟩,tv⟩ ?_
   refine TL_end ?_
   obtain rfl:=sinj h1
   refine tsn ?_
   exact SP_ren [] _ rfl ⟨rfl,tv⟩ tv rfl
  ·replace h1:=bif_f h1 hb
   refine TL_gt rfl rfl rfl rfl ?_
   refine zv 1 rfl ⟨⟨tv,tv⟩,tv⟩ ?_
   refine TL_gt rfl rfl rfl rfl ?_
   obtain ⟨r8,hr,h1⟩:=bnd h1
   refine TL_callB [] (format_payload.ok0 hr) format_payload.fnb rfl ⟨tv,⟨tv,tv⟩⟩ rfl tv rfl ?_
   refine TL_gt rfl rfl rfl rfl ?_
   refine zv 2 rfl ⟨⟨tv,tv,tv⟩,⟨tv,tv,tv⟩,tv⟩ ?_
   refine TL_end ?_
   obtain rfl:=sinj h1
   refine tsn ?_
   exact SP_ren [] _ rfl ⟨rfl,tv⟩ tv rfl
 ·rintro x6 hz
  obtain rfl:=hz.symm
  refine TE_go ?_
  refine TC_cond rfl (fun hb=>?_) (fun hb=>?_)
  ·replace h0:=bif_t h0 hb
   refine zr ?_
   refine zv 1 rfl ⟨tv,tv⟩ ?_
   refine ze ?_
   refine TC_ret ?_
   refine tsr ?_
   obtain rfl:=sinj h0
   exact TE_ret env rfl tv tv
  ·replace h0:=bif_f h0 hb
   refine TC_skip ?_
   refine zg ?_
   refine zv 1 rfl ⟨tv,tv⟩ ?_
   refine ze ?_
   refine TC_ret ?_
   obtain rfl:=sinj h0
   exact TE_ret env rfl tv tv
theorem format_Check.ok0 {K : Nat} {p0 p1 p2 p3 p4 p5 p6 p7 p8 p9 q0 : Int} (h0 : format_Check K p0 p1 p2 p3 p4 p5 p6 p7 p8 p9 = some q0) : Fn Tryz.prog 98 [.agg [.int .i64 p0,.int .i64 p1,.int .i64 p2,.int .i64 p3,.int .i64 p4,.int .i64 p5,.int .i64 p6,.int .i64 p7,.int .i64 p8,.int .i64 p9]] [] (.int .i64 q0) []:=format_Check.ok h0
theorem format_Check.fnb : fnb Tryz.prog 98 = true:=fnb_of Tryz.func98 rfl
def subband_may.res (_p0 _p1 _p2 _p3 _p4 _p5 _p6 _p7 _p8 _p9 : Int) : Int → MV
 | q0=>.int .i64 q0
def subband_may.out (_p0 _p1 _p2 _p3 _p4 _p5 _p6 _p7 _p8 _p9 : Int) : Int → List (Nat × Option MObj)
 | _=>[]
theorem subband_may.ok {K : Nat} {p0 p1 p2 p3 p4 p5 p6 p7 p8 p9 r : Int} (h0 : subband_may K p0 p1 p2 p3 p4 p5 p6 p7 p8 p9 = some r) : Fn Tryz.prog 41 [.agg [.int .i64 p0,.int .i64 p1,.int .i64 p2,.int .i64 p3,.int .i64 p4,.int .i64 p5,.int .i64 p6,.int .i64 p7,.int .i64 p8,.int .i64 p9]] [] (subband_may.res p0 p1 p2 p3 p4 p5 p6 p7 p8 p9 r) (subband_may.out p0 p1 p2 p3 p4 p5 p6 p7 p8 p9 r):=by
 refine Fn_of Tryz.func41 rfl (Nat.le_of_ble_eq_true rfl) fun Γ=>?_
 refine zr ?_
 refine zv 2 rfl ⟨tv,tv,tv⟩ ?_
 refine ze ?_
 refine TC_seq ?_
 refine zr ?_
 refine zv 1 rfl ⟨⟨tv,tv⟩,tv⟩ ?_
 obtain ⟨r2,hr,h0⟩:=bnd h0
 refine TL_callB [] (format_Check.ok0 hr) format_Check.fnb rfl ⟨tv,⟨tv,tv⟩⟩ rfl tv rfl ?_
 refine zv 6 rfl ⟨⟨tv,tv,tv⟩,tv,fun eg=>tv,fun eg=>⟨fun e=>e,tv⟩,fun eg=>⟨fun e=>e,tv,tv⟩,⟨tv,tv,fun e=>e⟩,tv⟩ ?_
 refine ze ?_
 refine TC_cond rfl (fun hb=>?_) (fun hb=>?_)
 ·replace h0:=bif_t h0 hb
  refine zr ?_
  refine zv 1 rfl ⟨tv,tv⟩ ?_
  refine ze ?_
  refine TC_ret ?_
  refine tsr ?_
  obtain rfl:=sinj h0
  exact TE_ret env rfl tv tv
 ·replace h0:=bif_f h0 hb
  refine TC_skip ?_
  refine zg ?_
  refine zv 1 rfl ⟨tv,tv⟩ ?_
  refine ze ?_
  refine TC_ret ?_
  obtain rfl:=sinj h0
  exact TE_ret env rfl tv tv
theorem subband_may.ok0 {K : Nat} {p0 p1 p2 p3 p4 p5 p6 p7 p8 p9 q0 : Int} (h0 : subband_may K p0 p1 p2 p3 p4 p5 p6 p7 p8 p9 = some q0) : Fn Tryz.prog 41 [.agg [.int .i64 p0,.int .i64 p1,.int .i64 p2,.int .i64 p3,.int .i64 p4,.int .i64 p5,.int .i64 p6,.int .i64 p7,.int .i64 p8,.int .i64 p9]] [] (.int .i64 q0) []:=subband_may.ok h0
theorem subband_may.fnb : fnb Tryz.prog 41 = true:=fnb_of Tryz.func41 rfl
def bank_Bank_may.res (_p0 : Bool) (_p1 : List (Option (List Int))) (_p2 _p3 : Int) : (Unit) ⊕ (Unit) → MV
 | .inl ()=>.int .i64 1
 | .inr ()=>.int .i64 0
def bank_Bank_may.out (_p0 : Bool) (p1 : List (Option (List Int))) (p2 p3 : Int) : (Unit) ⊕ (Unit) → List (Nat × Option MObj)
 | .inl ()=>[(0,some (.ab (bkA p1 p2 p3)))]
 | .inr ()=>[(0,some (.ab (bkA p1 p2 p3)))]
theorem bank_Bank_may.ok {K : Nat} {p0 : Bool} {p1 : List (Option (List Int))} {p2 p3 : Int} {r : (Unit) ⊕ (Unit)} (h0 : bank_Bank_may K p0 p1 p2 p3 = some r) : Fn Tryz.prog 190 [.p 0 0,.bool p0] [(0,some (.ab (bkA p1 p2 p3)))] (bank_Bank_may.res p0 p1 p2 p3 r) (bank_Bank_may.out p0 p1 p2 p3 r):=by
 refine Fn_of Tryz.func190 rfl (Nat.le_of_ble_eq_true rfl) fun Γ=>?_
 refine zr ?_
 refine zv 1 rfl ⟨tv,tv⟩ ?_
 refine ze ?_
 refine TC_seq ?_
 refine TC_blk ?_
 refine zr ?_
 refine zv 3 rfl ⟨tv,⟨tv,tv,tv⟩,tv,tv⟩ ?_
 refine ze ?_
 refine TC_cond rfl (fun hb=>?_) (fun hb=>?_)
 ·first | exact (ftf hb).elim | exact (tff hb).elim | exact absurd hb (by decide)
 ·refine zr ?_
  refine zv 3 rfl ⟨tv,tv,tv,tv⟩ ?_
  refine ze ?_
  refine TC_cond rfl (fun hb=>?_) (fun hb=>?_)
  ·replace h0:=bif_t h0 hb
   refine zr ?_
   refine zv 1 rfl ⟨tv,tv⟩ ?_
   refine ze ?_
   refine TC_ret ?_
   refine tbr ?_
   refine tsr ?_
   obtain rfl:=sinj h0
   exact TE_ret env rfl tv ⟨.inr rfl,tv⟩
  ·replace h0:=bif_f h0 hb
   refine TC_skip ?_
   refine tbn ?_
   refine zg ?_
   refine zv 1 rfl ⟨tv,tv⟩ ?_
   refine ze ?_
   refine TC_ret ?_
   obtain rfl:=sinj h0
   exact TE_ret env rfl tv ⟨.inr rfl,tv⟩
theorem bank_Bank_may.ok0 {K : Nat} {p0 : Bool} {p1 : List (Option (List Int))} {p2 p3 : Int}  (h0 : bank_Bank_may K p0 p1 p2 p3 = some (.inl ())) : Fn Tryz.prog 190 [.p 0 0,.bool p0] [(0,some (.ab (bkA p1 p2 p3)))] (.int .i64 1) [(0,some (.ab (bkA p1 p2 p3)))]:=bank_Bank_may.ok h0
theorem bank_Bank_may.ok1 {K : Nat} {p0 : Bool} {p1 : List (Option (List Int))} {p2 p3 : Int}  (h0 : bank_Bank_may K p0 p1 p2 p3 = some (.inr ())) : Fn Tryz.prog 190 [.p 0 0,.bool p0] [(0,some (.ab (bkA p1 p2 p3)))] (.int .i64 0) [(0,some (.ab (bkA p1 p2 p3)))]:=bank_Bank_may.ok h0
theorem bank_Bank_may.fnb : fnb Tryz.prog 190 = true:=fnb_of Tryz.func190 rfl
theorem sync_atomic_Bool_Load.ok0 {K : Nat} {p0 p1 : List (Option (List Int))} {p2 p3 : Int} (h0 : sync_atomic_Bool_Load K p0 p1 p2 p3 = some ()) : Fn Tryz.prog 213 [.pf 0 (tcs p0).length 0] [(0,some (.foc (tcs p0) [.int .u32 0,.int .i32 0,.int .u32 0,.nils] (pst p1 p2 p3)))] (.bool false) [(0,some (.foc (tcs p0) [.int .u32 0,.int .i32 0,.int .u32 0,.nils] (pst p1 p2 p3)))]:=by
 exact boolLoad_fn rfl
theorem sync_atomic_Bool_Load.fnb : fnb Tryz.prog 213 = true:=fnb_of Tryz.func213 rfl
def wave_modulo.res (_p0 _p1 : Int) : Int → MV
 | q0=>.int .i64 q0
def wave_modulo.out (_p0 _p1 : Int) : Int → List (Nat × Option MObj)
 | _=>[]
theorem wave_modulo.ok {K : Nat} {p0 p1 r : Int} (h0 : wave_modulo K p0 p1 = some r) : Fn Tryz.prog 210 [.int .i64 p0,.int .i64 p1] [] (wave_modulo.res p0 p1 r) (wave_modulo.out p0 p1 r):=by
 refine Fn_of Tryz.func210 rfl (Nat.le_of_ble_eq_true rfl) fun Γ=>?_
 refine zr ?_
 refine zv 1 rfl ⟨tv,tv⟩ ?_
 refine zn ?_
 obtain ⟨g,h0⟩:=gd_t h0
 refine zv 4 rfl ⟨tv,tv,⟨tv,tv,g⟩,tv,tv⟩ ?_
 refine ze ?_
 refine TC_seq ?_
 refine zr ?_
 refine zv 2 rfl ⟨tv,⟨tv,tv,tv⟩,tv⟩ ?_
 refine ze ?_
 obtain ⟨z1,h1,h0⟩:=bnd h0
 refine TC_cut (α:=Int) (fun s=>z1 = s) (fun s=>[(0,.int .i64 s)]) (fun s=>[]) ?_ ?_
 ·refine TC_cond rfl (fun hb=>?_) (fun hb=>?_)
  ·replace h1:=bif_t h1 hb
   refine TC_reg ?_
   refine zv 4 rfl ⟨tv,tv,⟨tv,tv,tv⟩,tv,tv⟩ ?_
   refine TL_end ?_
   obtain rfl:=sinj h1
   refine tsn ?_
   exact SP_ren [] _ rfl ⟨rfl,tv⟩ tv rfl
  ·replace h1:=bif_f h1 hb
   refine TC_skip ?_
   obtain rfl:=sinj h1
   refine tsn ?_
   exact SP_ren [] _ rfl ⟨rfl,tv⟩ tv rfl
 ·rintro x4 hz
  obtain rfl:=hz.symm
  refine zg ?_
  refine zv 2 rfl ⟨tv,tv,tv⟩ ?_
  refine ze ?_
  refine TC_ret ?_
  obtain rfl:=sinj h0
  exact TE_ret env rfl tv tv
theorem wave_modulo.ok0 {K : Nat} {p0 p1 q0 : Int} (h0 : wave_modulo K p0 p1 = some q0) : Fn Tryz.prog 210 [.int .i64 p0,.int .i64 p1] [] (.int .i64 q0) []:=wave_modulo.ok h0
theorem wave_modulo.fnb : fnb Tryz.prog 210 = true:=fnb_of Tryz.func210 rfl
def wave_height.res (_p0 _p1 : Int) : Int × Int → MV
 | (q0,q1)=>.tup [.int .u64 q0,.int .i64 q1]
def wave_height.out (_p0 _p1 : Int) : Int × Int → List (Nat × Option MObj)
 | (_,_)=>[]
theorem wave_height.ok {K : Nat} {p0 p1 : Int} {r : Int × Int} (h0 : wave_height K p0 p1 = some r) : Fn Tryz.prog 216 [.int .i64 p0,.int .i64 p1] [] (wave_height.res p0 p1 r) (wave_height.out p0 p1 r):=by
 refine Fn_of Tryz.func216 rfl (Nat.le_of_ble_eq_true rfl) fun Γ=>?_
 refine zr ?_
 refine zv 2 rfl ⟨tv,tv,tv⟩ ?_
 refine zn ?_
 refine zv 2 rfl ⟨tv,tv,tv⟩ ?_
 obtain ⟨r3,hr,h0⟩:=bnd h0
 refine TL_callB [] (wave_modulo.ok0 hr) wave_modulo.fnb rfl ⟨tv,⟨tv,⟨tv,tv⟩⟩⟩ rfl tv rfl ?_
 refine zv 2 rfl ⟨⟨tv,tv,tv⟩,tv,tv⟩ ?_
 refine zn ?_
 obtain ⟨g,h0⟩:=gd_t h0
 refine zv 4 rfl ⟨tv,tv,⟨tv,tv,g⟩,tv,tv⟩ ?_
 refine zn ?_
 obtain ⟨g,h0⟩:=gd_t h0
 refine zv 4 rfl ⟨tv,tv,⟨tv,tv,g⟩,tv,tv⟩ ?_
 refine ze ?_
 refine TC_seq ?_
 refine zr ?_
 refine zv 3 rfl ⟨tv,⟨tv,tv,tv⟩,⟨tv,tv,tv⟩,tv⟩ ?_
 refine ze ?_
 obtain ⟨z1,h1,h0⟩:=bnd h0
 refine TC_cut (α:=Int) (fun s=>z1 = s) (fun s=>[(1,.int .i64 p1),(5,.int .i64 (kwrap .i64 (Int.tdiv (kwrap .i64 (4 * r3)) p1))),(7,.int .i64 s)]) (fun s=>[]) ?_ ?_
 ·refine TC_cond rfl (fun hb=>?_) (fun hb=>?_)
  ·replace h1:=bif_t h1 hb
   refine TC_reg ?_
   refine zv 4 rfl ⟨tv,tv,⟨tv,tv,tv⟩,tv,tv⟩ ?_
   refine TL_end ?_
   obtain rfl:=sinj h1
   refine tsn ?_
   exact SP_ren [] _ rfl ⟨rfl,rfl,rfl,tv⟩ tv rfl
  ·replace h1:=bif_f h1 hb
   refine TC_skip ?_
   obtain rfl:=sinj h1
   refine tsn ?_
   exact SP_ren [] _ rfl ⟨rfl,rfl,rfl,tv⟩ tv rfl
 ·rintro x8 hz
  obtain rfl:=hz.symm
  refine zg ?_
  obtain ⟨g,h0⟩:=gd_t h0
  refine zv 9 rfl ⟨tv,tv,⟨tv,tv,(by decide)⟩,tv,tv,⟨tv,tv,g⟩,tv,tv,tv,tv⟩ ?_
  refine ze ?_
  refine TC_ret ?_
  obtain rfl:=sinj h0
  exact TE_ret env rfl tv tv
theorem wave_height.ok0 {K : Nat} {p0 p1 q0 q1 : Int} (h0 : wave_height K p0 p1 = some (q0,q1)) : Fn Tryz.prog 216 [.int .i64 p0,.int .i64 p1] [] (.tup [.int .u64 q0,.int .i64 q1]) []:=wave_height.ok h0
theorem wave_height.fnb : fnb Tryz.prog 216 = true:=fnb_of Tryz.func216 rfl
def fix_within_int.res (_p0 _p1 _p2 : Int) : Int → MV
 | q0=>.int .i64 q0
def fix_within_int.out (_p0 _p1 _p2 : Int) : Int → List (Nat × Option MObj)
 | _=>[]
theorem fix_within_int.ok {K : Nat} {p0 p1 p2 r : Int} (h0 : fix_within_int K p0 p1 p2 = some r) : Fn Tryz.prog 180 [.int .i64 p0,.int .i64 p1,.int .i64 p2] [] (fix_within_int.res p0 p1 p2 r) (fix_within_int.out p0 p1 p2 r):=by
 refine Fn_of Tryz.func180 rfl (Nat.le_of_ble_eq_true rfl) fun Γ=>?_
 refine zr ?_
 refine zv 1 rfl ⟨tv,tv⟩ ?_
 refine ze ?_
 refine TC_seq ?_
 refine TC_blk ?_
 refine zr ?_
 refine zv 4 rfl ⟨tv,tv,⟨tv,tv,tv⟩,tv,tv⟩ ?_
 refine ze ?_
 refine TC_cond rfl (fun hb=>?_) (fun hb=>?_)
 ·replace h0:=bif_t h0 hb
  refine zr ?_
  refine zv 2 rfl ⟨tv,tv,tv⟩ ?_
  refine ze ?_
  refine TC_ret ?_
  refine tbr ?_
  refine tsr ?_
  obtain rfl:=sinj h0
  exact TE_ret env rfl tv tv
 ·replace h0:=bif_f h0 hb
  refine zr ?_
  refine zv 4 rfl ⟨tv,tv,⟨tv,tv,tv⟩,tv,tv⟩ ?_
  refine ze ?_
  refine TC_cond rfl (fun hb=>?_) (fun hb=>?_)
  ·replace h0:=bif_t h0 hb
   refine zr ?_
   refine zv 2 rfl ⟨tv,tv,tv⟩ ?_
   refine ze ?_
   refine TC_ret ?_
   refine tbr ?_
   refine tsr ?_
   obtain rfl:=sinj h0
   exact TE_ret env rfl tv tv
  ·replace h0:=bif_f h0 hb
   refine TC_skip ?_
   refine tbn ?_
   refine zg ?_
   refine zv 2 rfl ⟨tv,tv,tv⟩ ?_
   refine ze ?_
   refine TC_ret ?_
   obtain rfl:=sinj h0
   exact TE_ret env rfl tv tv
theorem fix_within_int.ok0 {K : Nat} {p0 p1 p2 q0 : Int} (h0 : fix_within_int K p0 p1 p2 = some q0) : Fn Tryz.prog 180 [.int .i64 p0,.int .i64 p1,.int .i64 p2] [] (.int .i64 q0) []:=fix_within_int.ok h0
theorem fix_within_int.fnb : fnb Tryz.prog 180 = true:=fnb_of Tryz.func180 rfl
def fix_Round.res (_p0 _p1 : Int) : Int → MV
 | q0=>.int .i64 q0
def fix_Round.out (_p0 _p1 : Int) : Int → List (Nat × Option MObj)
 | _=>[]
theorem fix_Round.ok {K : Nat} {p0 p1 r : Int} (h0 : fix_Round K p0 p1 = some r) : Fn Tryz.prog 150 [.int .i64 p0,.int .i64 p1] [] (fix_Round.res p0 p1 r) (fix_Round.out p0 p1 r):=by
 refine Fn_of Tryz.func150 rfl (Nat.le_of_ble_eq_true rfl) fun Γ=>?_
 refine zr ?_
 refine zv 1 rfl ⟨tv,tv⟩ ?_
 refine zn ?_
 refine zv 1 rfl ⟨tv,tv⟩ ?_
 obtain ⟨r2,hr,h0⟩:=bnd h0
 refine TL_callB [] (fix_within_int.ok0 hr) fix_within_int.fnb rfl ⟨tv,⟨tv,⟨tv,⟨tv,tv⟩⟩⟩⟩ rfl tv rfl ?_
 refine zv 1 rfl ⟨tv,tv⟩ ?_
 refine ze ?_
 refine TC_seq ?_
 refine zr ?_
 refine zv 2 rfl ⟨tv,⟨tv,tv,tv⟩,tv⟩ ?_
 refine ze ?_
 refine TC_cond rfl (fun hb=>?_) (fun hb=>?_)
 ·replace h0:=bif_t h0 hb
  refine zr ?_
  refine zv 2 rfl ⟨tv,tv,tv⟩ ?_
  refine ze ?_
  refine TC_ret ?_
  refine tsr ?_
  obtain rfl:=sinj h0
  exact TE_ret env rfl tv tv
 ·replace h0:=bif_f h0 hb
  refine TC_skip ?_
  refine TE_go ?_
  refine TC_seq ?_
  refine TC_renw (A':=[(0,.int .i64 _),(1,.int .i64 _),(4,.int .i64 0)]) (L':=[]) [] ⟨rfl,rfl,rfl,tv⟩ tv rfl ?_
  refine zd [[],[],[1,0],[],[],[4],[5,4,3],[6,5,4,3],[7,6,5,4,3,2,1,0],[8,7,6,5,4,3,2,1,0]] [[],[],[],[],[],[],[],[],[],[]] [[],[],[],[],[],[],[],[],[],[]] [[],[],[],[],[],[],[],[],[],[]] (by kernel_rfl) (by kernel_rfl) ?_
  refine zj 1 rfl rfl rfl tv ?_
  refine zj 2 rfl rfl rfl tv ?_
  obtain ⟨g,h0⟩:=gd_t h0
  refine zj 3 rfl rfl rfl ⟨tv,tv,g⟩ ?_
  refine zj 4 rfl rfl rfl tv ?_
  refine zj 5 rfl rfl rfl tv ?_
  refine zj 6 rfl rfl rfl ⟨tv,tv,tv⟩ ?_
  obtain ⟨g,h0⟩:=gd_t h0
  refine zj 7 rfl rfl rfl ⟨tv,tv,g⟩ ?_
  refine zj 8 rfl rfl rfl ⟨tv,tv,tv⟩ ?_
  refine zj 9 rfl rfl rfl ⟨tv,tv,tv⟩ ?_
  refine zj 10 rfl rfl rfl tv ?_
  refine AJR_end rfl rfl rfl ?_
  refine zu ?_
  obtain rfl:=sinj h0
  exact TE_ret env rfl tv tv
theorem fix_Round.ok0 {K : Nat} {p0 p1 q0 : Int} (h0 : fix_Round K p0 p1 = some q0) : Fn Tryz.prog 150 [.int .i64 p0,.int .i64 p1] [] (.int .i64 q0) []:=fix_Round.ok h0
theorem fix_Round.fnb : fnb Tryz.prog 150 = true:=fnb_of Tryz.func150 rfl
def fix_within_int64.res (_p0 _p1 _p2 : Int) : Int → MV
 | q0=>.int .i64 q0
def fix_within_int64.out (_p0 _p1 _p2 : Int) : Int → List (Nat × Option MObj)
 | _=>[]
theorem fix_within_int64.ok {K : Nat} {p0 p1 p2 r : Int} (h0 : fix_within_int64 K p0 p1 p2 = some r) : Fn Tryz.prog 179 [.int .i64 p0,.int .i64 p1,.int .i64 p2] [] (fix_within_int64.res p0 p1 p2 r) (fix_within_int64.out p0 p1 p2 r):=by
 refine Fn_of Tryz.func179 rfl (Nat.le_of_ble_eq_true rfl) fun Γ=>?_
 refine zr ?_
 refine zv 1 rfl ⟨tv,tv⟩ ?_
 refine ze ?_
 refine TC_seq ?_
 refine TC_blk ?_
 refine zr ?_
 refine zv 4 rfl ⟨tv,tv,⟨tv,tv,tv⟩,tv,tv⟩ ?_
 refine ze ?_
 refine TC_cond rfl (fun hb=>?_) (fun hb=>?_)
 ·replace h0:=bif_t h0 hb
  refine zr ?_
  refine zv 2 rfl ⟨tv,tv,tv⟩ ?_
  refine ze ?_
  refine TC_ret ?_
  refine tbr ?_
  refine tsr ?_
  obtain rfl:=sinj h0
  exact TE_ret env rfl tv tv
 ·replace h0:=bif_f h0 hb
  refine zr ?_
  refine zv 4 rfl ⟨tv,tv,⟨tv,tv,tv⟩,tv,tv⟩ ?_
  refine ze ?_
  refine TC_cond rfl (fun hb=>?_) (fun hb=>?_)
  ·replace h0:=bif_t h0 hb
   refine zr ?_
   refine zv 2 rfl ⟨tv,tv,tv⟩ ?_
   refine ze ?_
   refine TC_ret ?_
   refine tbr ?_
   refine tsr ?_
   obtain rfl:=sinj h0
   exact TE_ret env rfl tv tv
  ·replace h0:=bif_f h0 hb
   refine TC_skip ?_
   refine tbn ?_
   refine zg ?_
   refine zv 2 rfl ⟨tv,tv,tv⟩ ?_
   refine ze ?_
   refine TC_ret ?_
   obtain rfl:=sinj h0
   exact TE_ret env rfl tv tv
theorem fix_within_int64.ok0 {K : Nat} {p0 p1 p2 q0 : Int} (h0 : fix_within_int64 K p0 p1 p2 = some q0) : Fn Tryz.prog 179 [.int .i64 p0,.int .i64 p1,.int .i64 p2] [] (.int .i64 q0) []:=fix_within_int64.ok h0
theorem fix_within_int64.fnb : fnb Tryz.prog 179 = true:=fnb_of Tryz.func179 rfl
def fix_Clip.res (_p0 _p1 _p2 : Int) : Int → MV
 | q0=>.int .i64 q0
def fix_Clip.out (_p0 _p1 _p2 : Int) : Int → List (Nat × Option MObj)
 | _=>[]
theorem fix_Clip.ok {K : Nat} {p0 p1 p2 r : Int} (h0 : fix_Clip K p0 p1 p2 = some r) : Fn Tryz.prog 143 [.int .i64 p0,.int .i64 p1,.int .i64 p2] [] (fix_Clip.res p0 p1 p2 r) (fix_Clip.out p0 p1 p2 r):=by
 refine Fn_of Tryz.func143 rfl (Nat.le_of_ble_eq_true rfl) fun Γ=>?_
 refine zr ?_
 refine zv 1 rfl ⟨tv,tv⟩ ?_
 refine zn ?_
 refine zv 3 rfl ⟨tv,tv,tv,tv⟩ ?_
 obtain ⟨r2,hr,h0⟩:=bnd h0
 refine TL_callB [] (fix_within_int64.ok0 hr) fix_within_int64.fnb rfl ⟨tv,⟨tv,⟨tv,⟨tv,tv⟩⟩⟩⟩ rfl tv rfl ?_
 refine zv 1 rfl ⟨tv,tv⟩ ?_
 refine ze ?_
 refine TC_ret ?_
 obtain rfl:=sinj h0
 exact TE_ret env rfl tv tv
theorem fix_Clip.ok0 {K : Nat} {p0 p1 p2 q0 : Int} (h0 : fix_Clip K p0 p1 p2 = some q0) : Fn Tryz.prog 143 [.int .i64 p0,.int .i64 p1,.int .i64 p2] [] (.int .i64 q0) []:=fix_Clip.ok h0
theorem fix_Clip.fnb : fnb Tryz.prog 143 = true:=fnb_of Tryz.func143 rfl
def wave_sine.res (_p0 _p1 : Int) : Int → MV
 | q0=>.int .i16 q0
def wave_sine.out (_p0 _p1 : Int) : Int → List (Nat × Option MObj)
 | _=>[]
theorem wave_sine.ok {K : Nat} {p0 p1 r : Int} (h0 : wave_sine K p0 p1 = some r) : Fn Tryz.prog 209 [.int .i64 p0,.int .i64 p1] [] (wave_sine.res p0 p1 r) (wave_sine.out p0 p1 r):=by
 refine Fn_of Tryz.func209 rfl (Nat.le_of_ble_eq_true rfl) fun Γ=>?_
 refine zr ?_
 refine zv 1 rfl ⟨tv,tv⟩ ?_
 refine zn ?_
 refine zv 2 rfl ⟨tv,tv,tv⟩ ?_
 obtain ⟨⟨r11,r12⟩,hr,h0⟩:=bnd h0
 refine TL_callB [] (wave_height.ok0 hr) wave_height.fnb rfl ⟨tv,⟨tv,⟨tv,tv⟩⟩⟩ rfl tv rfl ?_
 refine zv 5 rfl ⟨tv,tv,tv,tv,tv,tv⟩ ?_
 refine zn ?_
 refine zv 5 rfl ⟨tv,tv,⟨tv,tv,tv⟩,⟨tv,tv,(by decide)⟩,tv,tv⟩ ?_
 refine zn ?_
 refine zv 1 rfl ⟨tv,tv⟩ ?_
 refine ze ?_
 refine TC_seq ?_
 refine zr ?_
 refine zv 2 rfl ⟨⟨tv,tv,tv,tv,tv⟩,tv,tv⟩ ?_
 refine ze ?_
 obtain ⟨z1,h1,h0⟩:=bnd h0
 refine TC_cut (α:=Int) (fun s=>z1 = s) (fun s=>[(5,.int .u64 r11),(6,.int .i64 r12),(8,.int .u64 s)]) (fun s=>[]) ?_ ?_
 ·refine TC_blk ?_
  refine TC_loop (α:=Int × Int) (fun n s=>wave_sine.l0 K r11 r12 (kshr .u64 (kwrap .u64 (r11 * r11)) 30) n s.1 s.2 = some z1) (fun s=>[(5,.int .u64 r11),(6,.int .i64 r12),(7,.int .u64 (kshr .u64 (kwrap .u64 (r11 * r11)) 30)),(8,.int .u64 s.1),(22,.agg [.int .u64 5026995,.int .u64 85569306,.int .u64 693598668,.int .u64 1686629713]),(23,.int .i64 s.2)]) (fun s=>[]) K ?_ ?_
  ·exact SP_ren [] (_,_) h1 ⟨rfl,rfl,rfl,rfl,rfl,rfl,tv⟩ tv rfl
  rintro n ⟨x27,x28⟩ h1
  rcases n with _ | n
  ·exact (nsome h1).elim
  replace h1 : wave_sine.r0 K r11 r12 (kshr .u64 (kwrap .u64 (r11 * r11)) 30) (wave_sine.l0 K r11 r12 (kshr .u64 (kwrap .u64 (r11 * r11)) 30) n) x27 x28 = some z1:=h1
  refine zr ?_
  refine zv 1 rfl ⟨⟨tv,tv,tv⟩,tv⟩ ?_
  refine ze ?_
  refine TC_seq ?_
  refine TC_cond rfl (fun hb=>?_) (fun hb=>?_)
  ·replace h1:=bif_t h1 hb
   refine TC_skip ?_
   refine TE_go ?_
   refine TC_seq ?_
   refine TC_blk ?_
   refine zr ?_
   obtain ⟨g,h1⟩:=gd_t h1
   refine zv 2 rfl ⟨⟨tv,tv,g.1,g.2⟩,tv,tv⟩ ?_
   refine ze ?_
   refine TC_reg ?_
   refine zv 7 rfl ⟨tv,tv,tv,⟨tv,tv,tv⟩,⟨tv,tv,(by decide)⟩,⟨tv,tv,tv⟩,tv,tv⟩ ?_
   refine TL_end ?_
   refine tbn ?_
   refine zt ?_
   refine zv 2 rfl ⟨⟨tv,tv,tv⟩,tv,tv⟩ ?_
   refine zm ?_
   exact TE_nextr [] n (zs n) (_,_) h1 ⟨rfl,rfl,rfl,rfl,rfl,rfl,tv⟩ tv rfl
  ·replace h1:=bif_f h1 hb
   refine TC_exit ?_
   refine tsx ?_
   refine tsx ?_
   refine tbe ?_
   obtain rfl:=sinj h1
   refine tsn ?_
   exact SP_ren [] _ rfl ⟨rfl,rfl,rfl,tv⟩ tv rfl
 ·rintro x19 hz
  obtain rfl:=hz.symm
  refine zg ?_
  refine zv 5 rfl ⟨tv,tv,⟨tv,tv,tv⟩,⟨tv,tv,(by decide)⟩,tv,tv⟩ ?_
  obtain ⟨r23,hr,h0⟩:=bnd h0
  refine TL_callB [] (fix_Round.ok0 hr) fix_Round.fnb rfl ⟨tv,⟨tv,⟨tv,tv⟩⟩⟩ rfl tv rfl ?_
  obtain ⟨r24,hr,h0⟩:=bnd h0
  refine TL_callB [] (fix_Clip.ok0 hr) fix_Clip.fnb rfl ⟨tv,⟨tv,⟨tv,⟨tv,tv⟩⟩⟩⟩ rfl tv rfl ?_
  refine zv 1 rfl ⟨tv,tv⟩ ?_
  refine ze ?_
  refine TC_seq ?_
  refine zr ?_
  refine zv 2 rfl ⟨tv,⟨tv,tv,tv⟩,tv⟩ ?_
  refine ze ?_
  obtain ⟨z1,h1,h0⟩:=bnd h0
  refine TC_cut (α:=Int) (fun s=>z1 = s) (fun s=>[(11,.int .i64 s)]) (fun s=>[]) ?_ ?_
  ·refine TC_cond rfl (fun hb=>?_) (fun hb=>?_)
   ·replace h1:=bif_t h1 hb
    refine TC_reg ?_
    refine zv 3 rfl ⟨tv,tv,tv,tv⟩ ?_
    refine TL_end ?_
    obtain rfl:=sinj h1
    refine tsn ?_
    exact SP_ren [] _ rfl ⟨rfl,tv⟩ tv rfl
   ·replace h1:=bif_f h1 hb
    refine TC_skip ?_
    obtain rfl:=sinj h1
    refine tsn ?_
    exact SP_ren [] _ rfl ⟨rfl,tv⟩ tv rfl
  ·rintro x26 hz
   obtain rfl:=hz.symm
   refine zg ?_
   refine zv 3 rfl ⟨tv,tv,tv,tv⟩ ?_
   refine ze ?_
   refine TC_ret ?_
   obtain rfl:=sinj h0
   exact TE_ret env rfl tv tv
theorem wave_sine.ok0 {K : Nat} {p0 p1 q0 : Int} (h0 : wave_sine K p0 p1 = some q0) : Fn Tryz.prog 209 [.int .i64 p0,.int .i64 p1] [] (.int .i16 q0) []:=wave_sine.ok h0
theorem wave_sine.fnb : fnb Tryz.prog 209 = true:=fnb_of Tryz.func209 rfl
def wave_Sine.res (_p0 _p1 : Int) : Int × Int → MV
 | (q0,q1)=>.tup [.int .i16 q0,.int .i64 q1]
def wave_Sine.out (_p0 _p1 : Int) : Int × Int → List (Nat × Option MObj)
 | (_,_)=>[]
theorem wave_Sine.ok {K : Nat} {p0 p1 : Int} {r : Int × Int} (h0 : wave_Sine K p0 p1 = some r) : Fn Tryz.prog 208 [.int .i64 p0,.int .i64 p1] [] (wave_Sine.res p0 p1 r) (wave_Sine.out p0 p1 r):=by
 refine Fn_of Tryz.func208 rfl (Nat.le_of_ble_eq_true rfl) fun Γ=>?_
 refine zr ?_
 refine zv 2 rfl ⟨tv,tv,tv⟩ ?_
 refine ze ?_
 refine TC_seq ?_
 refine zr ?_
 refine zv 6 rfl ⟨tv,⟨tv,tv,tv⟩,tv,fun eg=>tv,fun eg=>⟨fun e=>e,tv,tv⟩,⟨tv,tv,fun e=>e⟩,tv⟩ ?_
 refine ze ?_
 refine TC_cond rfl (fun hb=>?_) (fun hb=>?_)
 ·replace h0:=bif_t h0 hb
  refine zr ?_
  refine zv 2 rfl ⟨tv,tv,tv⟩ ?_
  refine ze ?_
  refine TC_ret ?_
  refine tsr ?_
  obtain rfl:=sinj h0
  exact TE_ret env rfl tv tv
 ·replace h0:=bif_f h0 hb
  refine TC_skip ?_
  refine zg ?_
  refine zv 2 rfl ⟨tv,tv,tv⟩ ?_
  obtain ⟨r5,hr,h0⟩:=bnd h0
  refine TL_callB [] (wave_sine.ok0 hr) wave_sine.fnb rfl ⟨tv,⟨tv,⟨tv,tv⟩⟩⟩ rfl tv rfl ?_
  refine zv 2 rfl ⟨tv,tv,tv⟩ ?_
  refine ze ?_
  refine TC_ret ?_
  obtain rfl:=sinj h0
  exact TE_ret env rfl tv tv
theorem wave_Sine.ok0 {K : Nat} {p0 p1 q0 q1 : Int} (h0 : wave_Sine K p0 p1 = some (q0,q1)) : Fn Tryz.prog 208 [.int .i64 p0,.int .i64 p1] [] (.tup [.int .i16 q0,.int .i64 q1]) []:=wave_Sine.ok h0
theorem wave_Sine.fnb : fnb Tryz.prog 208 = true:=fnb_of Tryz.func208 rfl
def wave_Cosine.res (_p0 _p1 : Int) : Int × Int → MV
 | (q0,q1)=>.tup [.int .i16 q0,.int .i64 q1]
def wave_Cosine.out (_p0 _p1 : Int) : Int × Int → List (Nat × Option MObj)
 | (_,_)=>[]
theorem wave_Cosine.ok {K : Nat} {p0 p1 : Int} {r : Int × Int} (h0 : wave_Cosine K p0 p1 = some r) : Fn Tryz.prog 195 [.int .i64 p0,.int .i64 p1] [] (wave_Cosine.res p0 p1 r) (wave_Cosine.out p0 p1 r):=by
 refine Fn_of Tryz.func195 rfl (Nat.le_of_ble_eq_true rfl) fun Γ=>?_
 refine zr ?_
 refine zv 2 rfl ⟨tv,tv,tv⟩ ?_
 refine ze ?_
 refine TC_seq ?_
 refine zr ?_
 refine zv 6 rfl ⟨tv,⟨tv,tv,tv⟩,tv,fun eg=>tv,fun eg=>⟨fun e=>e,tv,tv⟩,⟨tv,tv,fun e=>e⟩,tv⟩ ?_
 refine ze ?_
 refine TC_cond rfl (fun hb=>?_) (fun hb=>?_)
 ·replace h0:=bif_t h0 hb
  refine zr ?_
  refine zv 2 rfl ⟨tv,tv,tv⟩ ?_
  refine ze ?_
  refine TC_ret ?_
  refine tsr ?_
  obtain rfl:=sinj h0
  exact TE_ret env rfl tv tv
 ·replace h0:=bif_f h0 hb
  refine TC_skip ?_
  refine zg ?_
  refine zv 2 rfl ⟨tv,tv,tv⟩ ?_
  obtain ⟨r6,hr,h0⟩:=bnd h0
  refine TL_callB [] (wave_modulo.ok0 hr) wave_modulo.fnb rfl ⟨tv,⟨tv,⟨tv,tv⟩⟩⟩ rfl tv rfl ?_
  refine zv 5 rfl ⟨⟨tv,tv,tv⟩,tv,⟨tv,tv,tv⟩,tv,⟨tv,tv,tv⟩,tv⟩ ?_
  obtain ⟨r10,hr,h0⟩:=bnd h0
  refine TL_callB [] (wave_sine.ok0 hr) wave_sine.fnb rfl ⟨tv,⟨tv,⟨tv,tv⟩⟩⟩ rfl tv rfl ?_
  refine zv 2 rfl ⟨tv,tv,tv⟩ ?_
  refine ze ?_
  refine TC_ret ?_
  obtain rfl:=sinj h0
  exact TE_ret env rfl tv tv
theorem wave_Cosine.ok0 {K : Nat} {p0 p1 q0 q1 : Int} (h0 : wave_Cosine K p0 p1 = some (q0,q1)) : Fn Tryz.prog 195 [.int .i64 p0,.int .i64 p1] [] (.tup [.int .i16 q0,.int .i64 q1]) []:=wave_Cosine.ok h0
theorem wave_Cosine.fnb : fnb Tryz.prog 195 = true:=fnb_of Tryz.func195 rfl
def fix_Sat16.res (_p0 : Int) : Int → MV
 | q0=>.int .i16 q0
def fix_Sat16.out (_p0 : Int) : Int → List (Nat × Option MObj)
 | _=>[]
theorem fix_Sat16.ok {K : Nat} {p0 r : Int} (h0 : fix_Sat16 K p0 = some r) : Fn Tryz.prog 149 [.int .i64 p0] [] (fix_Sat16.res p0 r) (fix_Sat16.out p0 r):=by
 refine Fn_of Tryz.func149 rfl (Nat.le_of_ble_eq_true rfl) fun Γ=>?_
 refine zr ?_
 refine zv 1 rfl ⟨tv,tv⟩ ?_
 refine zn ?_
 refine zv 1 rfl ⟨tv,tv⟩ ?_
 obtain ⟨r2,hr,h0⟩:=bnd h0
 refine TL_callB [] (fix_within_int64.ok0 hr) fix_within_int64.fnb rfl ⟨tv,⟨tv,⟨tv,⟨tv,tv⟩⟩⟩⟩ rfl tv rfl ?_
 refine zv 2 rfl ⟨tv,tv,tv⟩ ?_
 refine ze ?_
 refine TC_ret ?_
 obtain rfl:=sinj h0
 exact TE_ret env rfl tv tv
theorem fix_Sat16.ok0 {K : Nat} {p0 q0 : Int} (h0 : fix_Sat16 K p0 = some q0) : Fn Tryz.prog 149 [.int .i64 p0] [] (.int .i16 q0) []:=fix_Sat16.ok h0
theorem fix_Sat16.fnb : fnb Tryz.prog 149 = true:=fnb_of Tryz.func149 rfl
def bank_filtered.res (_p0 _p1 : Int) : Int → MV
 | q0=>.int .i16 q0
def bank_filtered.out (_p0 _p1 : Int) : Int → List (Nat × Option MObj)
 | _=>[]
theorem bank_filtered.ok {K : Nat} {p0 p1 r : Int} (h0 : bank_filtered K p0 p1 = some r) : Fn Tryz.prog 193 [.int .i64 p0,.int .i64 p1] [] (bank_filtered.res p0 p1 r) (bank_filtered.out p0 p1 r):=by
 refine Fn_of Tryz.func193 rfl (Nat.le_of_ble_eq_true rfl) fun Γ=>?_
 refine zr ?_
 refine zv 1 rfl ⟨tv,tv⟩ ?_
 refine zn ?_
 refine zv 1 rfl ⟨tv,tv⟩ ?_
 refine ze ?_
 refine TC_seq ?_
 refine zr ?_
 refine zv 5 rfl ⟨tv,tv,⟨tv,tv,tv⟩,⟨tv,tv,tv⟩,tv,tv⟩ ?_
 refine zn ?_
 refine zv 2 rfl ⟨tv,⟨tv,tv,tv⟩,tv⟩ ?_
 refine ze ?_
 obtain ⟨z1,h1,h0⟩:=bnd h0
 refine TC_cut (α:=Int) (fun s=>z1 = s) (fun s=>[(0,.int .i64 p0),(1,.int .i64 p1),(5,.int .i64 s)]) (fun s=>[]) ?_ ?_
 ·refine TC_cond rfl (fun hb=>?_) (fun hb=>?_)
  ·replace h1:=bif_t h1 hb
   refine zr ?_
   refine zv 4 rfl ⟨tv,⟨tv,tv,tv⟩,tv,⟨tv,tv,tv⟩,tv⟩ ?_
   obtain ⟨⟨r34,r35⟩,hr,h1⟩:=bnd h1
   refine TL_callB [] (wave_Sine.ok0 hr) wave_Sine.fnb rfl ⟨tv,⟨tv,⟨tv,tv⟩⟩⟩ rfl tv rfl ?_
   refine zv 5 rfl ⟨tv,tv,tv,tv,tv,tv⟩ ?_
   refine ze ?_
   refine TC_reg ?_
   obtain ⟨g,h1⟩:=gd_t h1
   refine zv 9 rfl ⟨tv,tv,tv,⟨tv,tv,tv⟩,⟨tv,tv,tv⟩,tv,⟨tv,tv,tv⟩,⟨tv,tv,g⟩,tv,tv⟩ ?_
   refine TL_end ?_
   obtain rfl:=sinj h1
   refine tsn ?_
   exact SP_ren [] _ rfl ⟨rfl,rfl,rfl,tv⟩ tv rfl
  ·replace h1:=bif_f h1 hb
   refine TC_skip ?_
   obtain rfl:=sinj h1
   refine tsn ?_
   exact SP_ren [] _ rfl ⟨rfl,rfl,rfl,tv⟩ tv rfl
 ·rintro x15 hz
  obtain rfl:=hz.symm
  refine zg ?_
  refine zv 3 rfl ⟨tv,tv,⟨tv,tv,tv⟩,tv⟩ ?_
  obtain ⟨⟨r17,r18⟩,hr,h0⟩:=bnd h0
  refine TL_callB [] (wave_Cosine.ok0 hr) wave_Cosine.fnb rfl ⟨tv,⟨tv,⟨tv,tv⟩⟩⟩ rfl tv rfl ?_
  refine zv 5 rfl ⟨tv,tv,tv,tv,tv,tv⟩ ?_
  refine zn ?_
  refine zv 4 rfl ⟨tv,⟨tv,tv,tv⟩,tv,⟨tv,tv,tv⟩,tv⟩ ?_
  obtain ⟨⟨r20,r21⟩,hr,h0⟩:=bnd h0
  refine TL_callB [] (wave_Cosine.ok0 hr) wave_Cosine.fnb rfl ⟨tv,⟨tv,⟨tv,tv⟩⟩⟩ rfl tv rfl ?_
  refine zv 5 rfl ⟨tv,tv,tv,tv,tv,tv⟩ ?_
  refine zn ?_
  refine zv 10 rfl ⟨tv,tv,⟨tv,tv,tv⟩,⟨tv,tv,tv⟩,tv,tv,⟨tv,tv,tv⟩,⟨tv,tv,tv⟩,⟨tv,tv,(by decide)⟩,tv,tv⟩ ?_
  refine zn ?_
  refine zv 3 rfl ⟨tv,tv,⟨tv,tv,tv⟩,tv⟩ ?_
  obtain ⟨r28,hr,h0⟩:=bnd h0
  refine TL_callB [] (fix_Round.ok0 hr) fix_Round.fnb rfl ⟨tv,⟨tv,⟨tv,tv⟩⟩⟩ rfl tv rfl ?_
  refine zv 1 rfl ⟨⟨tv,tv,tv⟩,tv⟩ ?_
  obtain ⟨r30,hr,h0⟩:=bnd h0
  refine TL_callB [] (fix_Round.ok0 hr) fix_Round.fnb rfl ⟨tv,⟨tv,⟨tv,tv⟩⟩⟩ rfl tv rfl ?_
  obtain ⟨r31,hr,h0⟩:=bnd h0
  refine TL_callB [] (fix_Sat16.ok0 hr) fix_Sat16.fnb rfl ⟨tv,⟨tv,tv⟩⟩ rfl tv rfl ?_
  refine zv 1 rfl ⟨tv,tv⟩ ?_
  refine ze ?_
  refine TC_ret ?_
  obtain rfl:=sinj h0
  exact TE_ret env rfl tv tv
theorem bank_filtered.ok0 {K : Nat} {p0 p1 q0 : Int} (h0 : bank_filtered K p0 p1 = some q0) : Fn Tryz.prog 193 [.int .i64 p0,.int .i64 p1] [] (.int .i16 q0) []:=bank_filtered.ok h0
theorem bank_filtered.fnb : fnb Tryz.prog 193 = true:=fnb_of Tryz.func193 rfl
def bank_Bank_Filter_1.res (_p0 _p1 : Int) : Int → MV
 | q0=>.int .i16 q0
def bank_Bank_Filter_1.out (_p0 p1 : Int) : Int → List (Nat × Option MObj)
 | _=>[(0,some (.cells [.int .i64 p1]))]
theorem bank_Bank_Filter_1.ok {K : Nat} {p0 p1 r : Int} (h0 : bank_Bank_Filter_1 K p0 p1 = some r) : Fn Tryz.prog 192 [.int .i64 p0,.p 0 0] [(0,some (.cells [.int .i64 p1]))] (bank_Bank_Filter_1.res p0 p1 r) (bank_Bank_Filter_1.out p0 p1 r):=by
 refine Fn_of Tryz.func192 rfl (Nat.le_of_ble_eq_true rfl) fun Γ=>?_
 refine zr ?_
 refine zv 1 rfl ⟨tv,tv⟩ ?_
 refine zn ?_
 refine zv 2 rfl ⟨⟨tv,tv⟩,tv,tv⟩ ?_
 obtain ⟨r2,hr,h0⟩:=bnd h0
 refine TL_callB [] (bank_filtered.ok0 hr) bank_filtered.fnb rfl ⟨tv,⟨tv,⟨tv,tv⟩⟩⟩ rfl tv rfl ?_
 refine zv 1 rfl ⟨tv,tv⟩ ?_
 refine ze ?_
 refine TC_ret ?_
 obtain rfl:=sinj h0
 exact TE_ret env rfl tv ⟨.inr rfl,tv⟩
theorem bank_Bank_Filter_1.ok0 {K : Nat} {p0 p1 q0 : Int} (h0 : bank_Bank_Filter_1 K p0 p1 = some q0) : Fn Tryz.prog 192 [.int .i64 p0,.p 0 0] [(0,some (.cells [.int .i64 p1]))] (.int .i16 q0) [(0,some (.cells [.int .i64 p1]))]:=bank_Bank_Filter_1.ok h0
theorem bank_Bank_Filter_1.fnb : fnb Tryz.prog 192 = true:=fnb_of Tryz.func192 rfl
theorem sync_atomic_Int64_Add.ok0 {K : Nat} {p0 : Int} {p1 : List (Option (List Int))} {p2 : List Int} {p3 : List (Option (List Int))} {p4 p5 q0 : Int} (h0 : sync_atomic_Int64_Add K p0 p1 p2 p3 p4 p5 = some q0) : Fn Tryz.prog 206 [.p 0 1552,.int .i64 p0] [(0,some (.foc (tcs p1) [.int .u32 0,.int .i32 1,.int .u32 0,.im (.slice (.int .i16)) p2] (pst p3 p4 p5)))] (.int .i64 q0) [(0,some (.foc (tcs p1) [.int .u32 0,.int .i32 1,.int .u32 0,.im (.slice (.int .i16)) p2] (pst p3 q0 p5)))]:=by
 obtain ⟨g,h0⟩:=gd_t h0
 obtain rfl:=sinj h0
 have hF:=int64Add_fn (pre:=tcs p1) (cs:=[.int .u32 0,.int .i32 1,.int .u32 0,.im (.slice (.int .i16)) p2]) (y:=p0) (c:=1552) (Lr:=[]) (by rw [tcs_len]; simp only [List.length_cons,List.length_nil]; omega) (pst_made p3 p4 p5)
 rw [pst_setm] at hF
 exact hF
theorem sync_atomic_Int64_Add.fnb : fnb Tryz.prog 206 = true:=fnb_of Tryz.func206 rfl
def bank_Bank_tell_1.res (_p0 _p1 : List (Option (List Int))) (_p2 _p3 _p4 _p5 : Int) : (List Int) × Int → MV
 | (_,_)=>.tup []
def bank_Bank_tell_1.out (p0 p1 : List (Option (List Int))) (_p2 p3 p4 p5 : Int) : (List Int) × Int → List (Nat × Option MObj)
 | (q0,q1)=>[(0,some (.foc (tcs p0) [.int .u32 0,.int .i32 1,.int .u32 0,.im (.slice (.int .i16)) q0] (pst p1 q1 p3))),(1,some (.cells [.int .i64 p4])),(2,some (.cells [.pf 0 (tcs p0).length 0])),(3,some (.cells [.fn 192 [.p 5 0]])),(4,some (.cells [.p 0 0])),(5,some (.cells [.int .i64 p5]))]
theorem bank_Bank_tell_1.ok {K : Nat} {p0 p1 : List (Option (List Int))} {p2 p3 p4 p5 : Int} {r : (List Int) × Int} (h0 : bank_Bank_tell_1 K p0 p1 p2 p3 p4 p5 = some r) : Fn Tryz.prog 205 [.p 1 0,.p 2 0,.p 3 0,.p 4 0] [(0,some (.foc (tcs p0) [.int .u32 0,.int .i32 1,.int .u32 0,.nils] (pst p1 p2 p3))),(1,some (.cells [.int .i64 p4])),(2,some (.cells [.pf 0 (tcs p0).length 0])),(3,some (.cells [.fn 192 [.p 5 0]])),(4,some (.cells [.p 0 0])),(5,some (.cells [.int .i64 p5]))] (bank_Bank_tell_1.res p0 p1 p2 p3 p4 p5 r) (bank_Bank_tell_1.out p0 p1 p2 p3 p4 p5 r):=by
 refine Fn_of Tryz.func205 rfl (Nat.le_of_ble_eq_true rfl) fun Γ=>?_
 refine TC_seq ?_
 refine TC_renw (A':=[(0,.p 1 0),(1,.p 2 0),(2,.p 3 0),(3,.p 4 0)]) (L':=[(0,some (.foc (tcs _) [.int .u32 0,.int .i32 1,.int .u32 0,.nils] (pst _ _ _))),(1,some (.cells [.int .i64 _])),(2,some (.cells [.pf 0 (tcs _).length 0])),(3,some (.cells [.fn 192 [.p 5 0]])),(4,some (.cells [.p 0 0])),(5,some (.cells [.int .i64 _]))]) [] ⟨rfl,rfl,rfl,rfl,tv⟩ ⟨rfl,rfl,rfl,rfl,rfl,rfl,tv⟩ rfl ?_
 refine zd [[],[],[1],[2,1,0],[3,2,1,0],[4,3,2,1,0]] [[],[],[1007],[],[],[0]] [[],[],[1007],[],[],[]] [[1007],[],[],[],[],[]] (by kernel_rfl) (by kernel_rfl) ?_
 refine zj 1 rfl rfl rfl ⟨tv,tv⟩ ?_
 refine zj 2 rfl rfl rfl ⟨tv,tv⟩ ?_
 obtain ⟨g,h0⟩:=gd_t h0
 refine zj 3 rfl rfl rfl ⟨tv,tv,g.1,g.2.1,g.2.2⟩ ?_
 refine zj 4 rfl rfl rfl tv ?_
 refine zj 5 rfl rfl rfl tv ?_
 refine zj 6 rfl rfl rfl ⟨tv,tv,rfl⟩ ?_
 refine AJR_end rfl rfl rfl ?_
 refine TE_go ?_
 refine TC_seq ?_
 refine zr ?_
 refine zv 6 rfl ⟨⟨tv,tv⟩,tv,tv,⟨tv,rfl⟩,⟨tv,tv⟩,tv,tv⟩ ?_
 refine ze ?_
 obtain ⟨z1,h1,h0⟩:=bnd h0
 refine TC_cut (α:=(List Int)) (fun s=>z1 = s) (fun s=>[(3,.p 4 0)]) (fun s=>[(0,some (.foc (tcs p0) [.int .u32 0,.int .i32 1,.int .u32 0,.sl 10806] (pst p1 p2 p3))),(1,some (.cells [.int .i64 p4])),(2,some (.cells [.pf 0 (tcs p0).length 0])),(3,some (.cells [.fn 192 [.p 5 0]])),(4,some (.cells [.p 0 0])),(5,some (.cells [.int .i64 p5])),(10806,some (.rows (.int .i16) s))]) ?_ ?_
 ·refine TC_blk ?_
  refine TC_loop (α:=Int × (List Int)) (fun n s=>bank_Bank_tell_1.l0 K ((List.replicate (Int.toNat p4) (0 : Int)).length : Int) p0 p1 p2 p3 p4 p5 n s.1 s.2 = some z1) (fun s=>[(1,.p 2 0),(2,.p 3 0),(3,.p 4 0),(14,.int .i64 ((List.replicate (Int.toNat p4) (0 : Int)).length : Int)),(15,.int .i64 s.1)]) (fun s=>[(0,some (.foc (tcs p0) [.int .u32 0,.int .i32 1,.int .u32 0,.sl 11006] (pst p1 p2 p3))),(1,some (.cells [.int .i64 p4])),(2,some (.cells [.pf 0 (tcs p0).length 0])),(3,some (.cells [.fn 192 [.p 5 0]])),(4,some (.cells [.p 0 0])),(5,some (.cells [.int .i64 p5])),(11006,some (.rows (.int .i16) s.2))]) K ?_ ?_
  ·exact SP_ren [(11006,1007)] (_,_) h1 ⟨rfl,rfl,rfl,rfl,rfl,tv⟩ ⟨rfl,rfl,rfl,rfl,rfl,rfl,rfl,tv⟩ rfl
  rintro n ⟨x25,x26⟩ h1
  rcases n with _ | n
  ·exact (nsome h1).elim
  replace h1 : bank_Bank_tell_1.r0 K ((List.replicate (Int.toNat p4) (0 : Int)).length : Int) p0 p1 p2 p3 p4 p5 (bank_Bank_tell_1.l0 K ((List.replicate (Int.toNat p4) (0 : Int)).length : Int) p0 p1 p2 p3 p4 p5 n) x25 x26 = some z1:=h1
  refine zr ?_
  refine zv 1 rfl ⟨⟨tv,tv,tv⟩,tv⟩ ?_
  refine ze ?_
  refine TC_seq ?_
  refine TC_cond rfl (fun hb=>?_) (fun hb=>?_)
  ·replace h1:=bif_t h1 hb
   refine TC_skip ?_
   refine TE_go ?_
   refine TC_seq ?_
   refine TC_blk ?_
   refine zr ?_
   refine zv 2 rfl ⟨tv,tv,tv⟩ ?_
   refine ze ?_
   refine TC_renw (A':=[(1,.p 2 0),(2,.p 3 0),(3,.p 4 0),(4,.int .i64 _),(14,.int .i64 _),(15,.int .i64 _)]) (L':=[(0,some (.foc (tcs _) [.int .u32 0,.int .i32 1,.int .u32 0,.sl 11006] (pst _ _ _))),(1,some (.cells [.int .i64 _])),(2,some (.cells [.pf 0 (tcs _).length 0])),(3,some (.cells [.fn 192 [.p 5 0]])),(4,some (.cells [.p 0 0])),(5,some (.cells [.int .i64 _])),(11006,some (.rows (.int .i16) _))]) [] ⟨rfl,rfl,rfl,rfl,rfl,rfl,tv⟩ ⟨rfl,rfl,rfl,rfl,rfl,rfl,rfl,tv⟩ rfl ?_
   refine zd [[],[0],[1,0],[2,1,0],[],[],[],[6,5],[7,6,5,4,3,2,1,0],[8,7,6,5,4,3,2,1,0]] [[],[],[],[],[],[],[],[],[],[11006]] [[],[],[],[],[],[],[],[],[],[]] [[],[],[],[],[],[],[],[],[],[]] (by kernel_rfl) (by kernel_rfl) ?_
   refine zj 1 rfl rfl rfl ⟨tv,tv⟩ ?_
   refine zj 2 rfl rfl rfl tv ?_
   refine zj 3 rfl rfl rfl tv ?_
   refine zj 4 rfl rfl rfl ⟨tv,rfl⟩ ?_
   refine zj 5 rfl rfl rfl tv ?_
   refine zj 6 rfl rfl rfl ⟨tv,tv⟩ ?_
   refine zj 7 rfl rfl rfl tv ?_
   obtain ⟨r33,hr,h1⟩:=bnd h1
   refine AJR_callS 8 rfl (Nat.le_of_ble_eq_true rfl) [(0,5)] rfl (bank_Bank_Filter_1.ok0 hr) bank_Bank_Filter_1.fnb rfl ⟨tv,⟨tv,tv⟩⟩ rfl ⟨.inr rfl,tv⟩ rfl ⟨⟨rfl,rfl⟩,tv⟩ ?_
   obtain ⟨g,h1⟩:=gd_t h1
   refine zj 9 rfl rfl rfl ⟨tv,tv,g.1,g.2⟩ ?_
   obtain ⟨g,h1⟩:=gd_t h1
   refine zj 10 rfl rfl rfl ⟨tv,tv,g⟩ ?_
   refine AJR_end rfl rfl rfl ?_
   refine tbn ?_
   refine zt ?_
   refine zv 2 rfl ⟨⟨tv,tv,tv⟩,tv,tv⟩ ?_
   refine zm ?_
   exact TE_nextr [(11006,11006)] n (zs n) (_,_) h1 ⟨rfl,rfl,rfl,rfl,rfl,tv⟩ ⟨rfl,rfl,rfl,rfl,rfl,rfl,rfl,tv⟩ rfl
  ·replace h1:=bif_f h1 hb
   refine TC_exit ?_
   refine tsx ?_
   refine tsx ?_
   refine tbe ?_
   obtain rfl:=sinj h1
   refine tsn ?_
   exact SP_ren [(10806,11006)] _ rfl ⟨rfl,tv⟩ ⟨rfl,rfl,rfl,rfl,rfl,rfl,rfl,tv⟩ rfl
 ·rintro x21 hz
  obtain rfl:=hz.symm
  refine zt ?_
  refine zv 3 rfl ⟨⟨tv,tv⟩,tv,tv,tv⟩ ?_
  refine TL_frz 10806 rfl ?_
  obtain ⟨r22,hr,h0⟩:=bnd h0
  refine TL_callB [(0,0)] (sync_atomic_Int64_Add.ok0 hr) sync_atomic_Int64_Add.fnb rfl ⟨tv,⟨tv,⟨tv,tv⟩⟩⟩ rfl ⟨.inr rfl,tv⟩ rfl ?_
  refine TL_end ?_
  obtain rfl:=sinj h0
  exact TE_end env rfl tv ⟨.inr rfl,.inr rfl,.inr rfl,.inr rfl,.inr rfl,.inr rfl,tv⟩
theorem bank_Bank_tell_1.ok0 {K : Nat} {p0 p1 : List (Option (List Int))} {p2 p3 p4 p5 : Int} {q0 : List Int} {q1 : Int} (h0 : bank_Bank_tell_1 K p0 p1 p2 p3 p4 p5 = some (q0,q1)) : Fn Tryz.prog 205 [.p 1 0,.p 2 0,.p 3 0,.p 4 0] [(0,some (.foc (tcs p0) [.int .u32 0,.int .i32 1,.int .u32 0,.nils] (pst p1 p2 p3))),(1,some (.cells [.int .i64 p4])),(2,some (.cells [.pf 0 (tcs p0).length 0])),(3,some (.cells [.fn 192 [.p 5 0]])),(4,some (.cells [.p 0 0])),(5,some (.cells [.int .i64 p5]))] (.tup []) [(0,some (.foc (tcs p0) [.int .u32 0,.int .i32 1,.int .u32 0,.im (.slice (.int .i16)) q0] (pst p1 q1 p3))),(1,some (.cells [.int .i64 p4])),(2,some (.cells [.pf 0 (tcs p0).length 0])),(3,some (.cells [.fn 192 [.p 5 0]])),(4,some (.cells [.p 0 0])),(5,some (.cells [.int .i64 p5]))]:=bank_Bank_tell_1.ok h0
theorem bank_Bank_tell_1.fnb : fnb Tryz.prog 205 = true:=fnb_of Tryz.func205 rfl
theorem sync_Once_doSlow.ok0 {K : Nat} {p0 p1 : List (Option (List Int))} {p2 p3 p4 p5 : Int} {q0 : List Int} {q1 : Int} (h0 : sync_Once_doSlow K p0 p1 p2 p3 p4 p5 = some (q0,q1)) : Fn Tryz.prog 214 [.pf 0 (tcs p0).length 0,.fn 205 [.p 1 0,.p 2 0,.p 3 0,.p 4 0]] [(0,some (.foc (tcs p0) [.int .u32 0,.int .i32 0,.int .u32 0,.nils] (pst p1 p2 p3))),(1,some (.cells [.int .i64 p4])),(2,some (.cells [.pf 0 (tcs p0).length 0])),(3,some (.cells [.fn 192 [.p 5 0]])),(4,some (.cells [.p 0 0])),(5,some (.cells [.int .i64 p5]))] (.tup []) [(0,some (.foc (tcs p0) [.int .u32 1,.int .i32 0,.int .u32 0,.im (.slice (.int .i16)) q0] (pst p1 q1 p3))),(1,some (.cells [.int .i64 p4])),(2,some (.cells [.pf 0 (tcs p0).length 0])),(3,some (.cells [.fn 192 [.p 5 0]])),(4,some (.cells [.p 0 0])),(5,some (.cells [.int .i64 p5]))]:=by
 exact slow_fn rfl (bank_Bank_tell_1.ok0 h0)
theorem sync_Once_doSlow.fnb : fnb Tryz.prog 214 = true:=fnb_of Tryz.func214 rfl
def sync_Once_Do.res (_p0 _p1 : List (Option (List Int))) (_p2 _p3 _p4 _p5 : Int) : (List Int) × Int → MV
 | (_,_)=>.tup []
def sync_Once_Do.out (p0 p1 : List (Option (List Int))) (_p2 p3 p4 p5 : Int) : (List Int) × Int → List (Nat × Option MObj)
 | (q0,q1)=>[(0,some (.foc (tcs p0) [.int .u32 1,.int .i32 0,.int .u32 0,.im (.slice (.int .i16)) q0] (pst p1 q1 p3))),(1,some (.cells [.int .i64 p4])),(2,some (.cells [.pf 0 (tcs p0).length 0])),(3,some (.cells [.fn 192 [.p 5 0]])),(4,some (.cells [.p 0 0])),(5,some (.cells [.int .i64 p5]))]
theorem sync_Once_Do.ok {K : Nat} {p0 p1 : List (Option (List Int))} {p2 p3 p4 p5 : Int} {r : (List Int) × Int} (h0 : sync_Once_Do K p0 p1 p2 p3 p4 p5 = some r) : Fn Tryz.prog 204 [.pf 0 (tcs p0).length 0,.fn 205 [.p 1 0,.p 2 0,.p 3 0,.p 4 0]] [(0,some (.foc (tcs p0) [.int .u32 0,.int .i32 0,.int .u32 0,.nils] (pst p1 p2 p3))),(1,some (.cells [.int .i64 p4])),(2,some (.cells [.pf 0 (tcs p0).length 0])),(3,some (.cells [.fn 192 [.p 5 0]])),(4,some (.cells [.p 0 0])),(5,some (.cells [.int .i64 p5]))] (sync_Once_Do.res p0 p1 p2 p3 p4 p5 r) (sync_Once_Do.out p0 p1 p2 p3 p4 p5 r):=by
 refine Fn_of Tryz.func204 rfl (Nat.le_of_ble_eq_true rfl) fun Γ=>?_
 refine zr ?_
 refine zv 3 rfl ⟨tv,tv,tv,tv⟩ ?_
 obtain ⟨⟨⟩,hr,h0⟩:=bnd h0
 refine TL_callB [(0,0)] (sync_atomic_Bool_Load.ok0 hr) sync_atomic_Bool_Load.fnb rfl ⟨tv,⟨tv,tv⟩⟩ rfl ⟨.inr rfl,tv⟩ rfl ?_
 refine zv 1 rfl ⟨tv,tv⟩ ?_
 refine ze ?_
 refine TC_cond rfl (fun hb=>?_) (fun hb=>?_)
 ·refine TC_reg ?_
  refine zv 2 rfl ⟨tv,tv,tv⟩ ?_
  obtain ⟨⟨r3,r4⟩,hr,h0⟩:=bnd h0
  refine TL_callB [(0,0),(1,1),(2,2),(3,3),(4,4),(5,5)] (sync_Once_doSlow.ok0 hr) sync_Once_doSlow.fnb rfl ⟨tv,⟨tv,⟨tv,tv⟩⟩⟩ rfl ⟨.inr rfl,.inr rfl,.inr rfl,.inr rfl,.inr rfl,.inr rfl,tv⟩ rfl ?_
  refine TL_end ?_
  obtain rfl:=sinj h0
  exact TE_end env rfl tv ⟨.inr rfl,.inr rfl,.inr rfl,.inr rfl,.inr rfl,.inr rfl,tv⟩
 ·first | exact (ftf hb).elim | exact (tff hb).elim | exact absurd hb (by decide)
theorem sync_Once_Do.ok0 {K : Nat} {p0 p1 : List (Option (List Int))} {p2 p3 p4 p5 : Int} {q0 : List Int} {q1 : Int} (h0 : sync_Once_Do K p0 p1 p2 p3 p4 p5 = some (q0,q1)) : Fn Tryz.prog 204 [.pf 0 (tcs p0).length 0,.fn 205 [.p 1 0,.p 2 0,.p 3 0,.p 4 0]] [(0,some (.foc (tcs p0) [.int .u32 0,.int .i32 0,.int .u32 0,.nils] (pst p1 p2 p3))),(1,some (.cells [.int .i64 p4])),(2,some (.cells [.pf 0 (tcs p0).length 0])),(3,some (.cells [.fn 192 [.p 5 0]])),(4,some (.cells [.p 0 0])),(5,some (.cells [.int .i64 p5]))] (.tup []) [(0,some (.foc (tcs p0) [.int .u32 1,.int .i32 0,.int .u32 0,.im (.slice (.int .i16)) q0] (pst p1 q1 p3))),(1,some (.cells [.int .i64 p4])),(2,some (.cells [.pf 0 (tcs p0).length 0])),(3,some (.cells [.fn 192 [.p 5 0]])),(4,some (.cells [.p 0 0])),(5,some (.cells [.int .i64 p5]))]:=sync_Once_Do.ok h0
theorem sync_Once_Do.fnb : fnb Tryz.prog 204 = true:=fnb_of Tryz.func204 rfl
theorem sync_atomic_Int64_Add_2.ok0 {K : Nat} {p0 : Int} {p1 : List (Option (List Int))} {p2 : List Int} {p3 : List (Option (List Int))} {p4 p5 q0 : Int} (h0 : sync_atomic_Int64_Add_2 K p0 p1 p2 p3 p4 p5 = some q0) : Fn Tryz.prog 206 [.p 0 1553,.int .i64 p0] [(0,some (.foc (tcs p1) [.int .u32 1,.int .i32 0,.int .u32 0,.im (.slice (.int .i16)) p2] (pst p3 p4 p5)))] (.int .i64 q0) [(0,some (.foc (tcs p1) [.int .u32 1,.int .i32 0,.int .u32 0,.im (.slice (.int .i16)) p2] (pst p3 p4 q0)))]:=by
 obtain ⟨g,h0⟩:=gd_t h0
 obtain rfl:=sinj h0
 have hF:=int64Add_fn (pre:=tcs p1) (cs:=[.int .u32 1,.int .i32 0,.int .u32 0,.im (.slice (.int .i16)) p2]) (y:=p0) (c:=1553) (Lr:=[]) (by rw [tcs_len]; simp only [List.length_cons,List.length_nil]; omega) (pst_told p3 p4 p5)
 rw [pst_sett] at hF
 exact hF
theorem sync_atomic_Int64_Add_2.fnb : fnb Tryz.prog 206 = true:=fnb_of Tryz.func206 rfl
def slices_Clone_int16_int16.res (_p0 : List Int) : (List Int) → MV
 | q0=>.im (.slice (.int .i16)) q0
def slices_Clone_int16_int16.out (_p0 : List Int) : (List Int) → List (Nat × Option MObj)
 | _=>[]
theorem slices_Clone_int16_int16.ok {K : Nat} {p0 : List Int} {r : (List Int)} (h0 : slices_Clone_int16_int16 K p0 = some r) : Fn Tryz.prog 207 [.im (.slice (.int .i16)) p0] [] (slices_Clone_int16_int16.res p0 r) (slices_Clone_int16_int16.out p0 r):=by
 refine Fn_of Tryz.func207 rfl (Nat.le_of_ble_eq_true rfl) fun Γ=>?_
 refine zr ?_
 refine zv 1 rfl ⟨tv,tv⟩ ?_
 refine ze ?_
 refine TC_seq ?_
 refine zr ?_
 obtain ⟨g,h0⟩:=gd_t h0
 refine zv 2 rfl ⟨tv,⟨tv,tv,g⟩,tv⟩ ?_
 refine ze ?_
 refine TC_cond rfl (fun hb=>?_) (fun hb=>?_)
 ·first | exact (ftf hb).elim | exact (tff hb).elim | exact absurd hb (by decide)
 ·refine TC_skip ?_
  refine zg ?_
  obtain ⟨g,h0⟩:=gd_t h0
  refine zv 4 rfl ⟨tv,tv,⟨⟨tv,tv,tv⟩,g⟩,tv,tv⟩ ?_
  refine ze ?_
  refine TC_ret ?_
  refine TE_frz 1007 rfl ?_
  obtain rfl:=sinj h0
  exact TE_ret env rfl tv tv
theorem slices_Clone_int16_int16.ok0 {K : Nat} {p0 q0 : List Int} (h0 : slices_Clone_int16_int16 K p0 = some q0) : Fn Tryz.prog 207 [.im (.slice (.int .i16)) p0] [] (.im (.slice (.int .i16)) q0) []:=slices_Clone_int16_int16.ok h0
theorem slices_Clone_int16_int16.fnb : fnb Tryz.prog 207 = true:=fnb_of Tryz.func207 rfl
def bank_Bank_tell.res (_t0 _t1 : List (Option (List Int))) (_p1 _p3 _p4 _p5 : Int) : (List Int) × (List Int) × Int × Int → MV
 | (q0,_,_,_)=>.tup [.im (.slice (.int .i16)) q0,.int .i64 0]
def bank_Bank_tell.out (t0 t1 : List (Option (List Int))) (_p1 _p3 _p4 p5 : Int) : (List Int) × (List Int) × Int × Int → List (Nat × Option MObj)
 | (_,q1,q2,q3)=>[(0,some (.foc (tcs t0) [.int .u32 1,.int .i32 0,.int .u32 0,.im (.slice (.int .i16)) q1] (pst t1 q2 q3))),(1,some (.cells [.int .i64 p5]))]
theorem bank_Bank_tell.ok {K : Nat} {t0 t1 : List (Option (List Int))} {p1 p3 p4 p5 : Int} {r : (List Int) × (List Int) × Int × Int} (h0 : bank_Bank_tell K t0 t1 p1 p3 p4 p5 = some r) : Fn Tryz.prog 191 [.p 0 0,.pf 0 (tcs t0).length 0,.int .i64 p1,.fn 192 [.p 1 0]] [(0,some (.foc (tcs t0) [.int .u32 0,.int .i32 0,.int .u32 0,.nils] (pst t1 p3 p4))),(1,some (.cells [.int .i64 p5]))] (bank_Bank_tell.res t0 t1 p1 p3 p4 p5 r) (bank_Bank_tell.out t0 t1 p1 p3 p4 p5 r):=by
 refine Fn_of Tryz.func191 rfl (Nat.le_of_ble_eq_true rfl) fun Γ=>?_
 refine zr ?_
 refine zv 6 rfl ⟨tv,tv,tv,tv,tv,tv,tv⟩ ?_
 refine zn ?_
 refine zv 4 rfl ⟨⟨tv,tv⟩,tv,tv,⟨tv,tv,tv,tv,tv⟩,tv⟩ ?_
 obtain ⟨⟨r5,r6⟩,hr,h0⟩:=bnd h0
 refine TL_callB [(0,0),(1,1006),(2,1005),(3,1007),(4,1004),(5,1)] (sync_Once_Do.ok0 hr) sync_Once_Do.fnb rfl ⟨tv,⟨tv,⟨tv,tv⟩⟩⟩ rfl ⟨.inr rfl,.inr rfl,.inr rfl,.inr rfl,.inr rfl,.inr rfl,tv⟩ rfl ?_
 refine zn ?_
 refine zv 3 rfl ⟨⟨tv,tv⟩,tv,tv,tv⟩ ?_
 obtain ⟨r7,hr,h0⟩:=bnd h0
 refine TL_callB [(0,0)] (sync_atomic_Int64_Add_2.ok0 hr) sync_atomic_Int64_Add_2.fnb rfl ⟨tv,⟨tv,⟨tv,tv⟩⟩⟩ rfl ⟨.inr rfl,tv⟩ rfl ?_
 refine zn ?_
 refine zv 4 rfl ⟨⟨tv,tv⟩,tv,tv,⟨tv,rfl⟩,tv⟩ ?_
 obtain ⟨r8,hr,h0⟩:=bnd h0
 refine TL_callB [] (slices_Clone_int16_int16.ok0 hr) slices_Clone_int16_int16.fnb rfl ⟨tv,⟨tv,tv⟩⟩ rfl tv rfl ?_
 refine zv 2 rfl ⟨tv,tv,tv⟩ ?_
 refine ze ?_
 refine TC_ret ?_
 obtain rfl:=sinj h0
 exact TE_ret env rfl tv ⟨.inr rfl,.inr rfl,tv⟩
theorem bank_Bank_tell.ok0 {K : Nat} {t0 t1 : List (Option (List Int))} {p1 p3 p4 p5 : Int} {q0 q1 : List Int} {q2 q3 : Int} (h0 : bank_Bank_tell K t0 t1 p1 p3 p4 p5 = some (q0,q1,q2,q3)) : Fn Tryz.prog 191 [.p 0 0,.pf 0 (tcs t0).length 0,.int .i64 p1,.fn 192 [.p 1 0]] [(0,some (.foc (tcs t0) [.int .u32 0,.int .i32 0,.int .u32 0,.nils] (pst t1 p3 p4))),(1,some (.cells [.int .i64 p5]))] (.tup [.im (.slice (.int .i16)) q0,.int .i64 0]) [(0,some (.foc (tcs t0) [.int .u32 1,.int .i32 0,.int .u32 0,.im (.slice (.int .i16)) q1] (pst t1 q2 q3))),(1,some (.cells [.int .i64 p5]))]:=bank_Bank_tell.ok h0
theorem bank_Bank_tell.fnb : fnb Tryz.prog 191 = true:=fnb_of Tryz.func191 rfl
theorem sync_atomic_Bool_Load_2.ok0 {K : Nat} {p0 : List (Option (List Int))} {p1 : List Int} {p2 : List (Option (List Int))} {p3 p4 : Int} (h0 : sync_atomic_Bool_Load_2 K p0 p1 p2 p3 p4 = some ()) : Fn Tryz.prog 213 [.pf 0 (tcs p0).length 0] [(0,some (.foc (tcs p0) [.int .u32 1,.int .i32 0,.int .u32 0,.im (.slice (.int .i16)) p1] (pst p2 p3 p4)))] (.bool true) [(0,some (.foc (tcs p0) [.int .u32 1,.int .i32 0,.int .u32 0,.im (.slice (.int .i16)) p1] (pst p2 p3 p4)))]:=by
 exact boolLoad_fn rfl
theorem sync_atomic_Bool_Load_2.fnb : fnb Tryz.prog 213 = true:=fnb_of Tryz.func213 rfl
def sync_Once_Do_2.res (_p0 : List (Option (List Int))) (_p1 : List Int) (_p2 : List (Option (List Int))) (_p3 _p4 _p5 _p6 : Int) : Unit → MV
 | ()=>.tup []
def sync_Once_Do_2.out (p0 : List (Option (List Int))) (p1 : List Int) (p2 : List (Option (List Int))) (p3 p4 p5 p6 : Int) : Unit → List (Nat × Option MObj)
 | ()=>[(0,some (.foc (tcs p0) [.int .u32 1,.int .i32 0,.int .u32 0,.im (.slice (.int .i16)) p1] (pst p2 p3 p4))),(1,some (.cells [.int .i64 p5])),(2,some (.cells [.pf 0 (tcs p0).length 0])),(3,some (.cells [.fn 192 [.p 5 0]])),(4,some (.cells [.p 0 0])),(5,some (.cells [.int .i64 p6]))]
theorem sync_Once_Do_2.ok {K : Nat} {p0 : List (Option (List Int))} {p1 : List Int} {p2 : List (Option (List Int))} {p3 p4 p5 p6 : Int} {r : Unit} (h0 : sync_Once_Do_2 K p0 p1 p2 p3 p4 p5 p6 = some r) : Fn Tryz.prog 204 [.pf 0 (tcs p0).length 0,.fn 205 [.p 1 0,.p 2 0,.p 3 0,.p 4 0]] [(0,some (.foc (tcs p0) [.int .u32 1,.int .i32 0,.int .u32 0,.im (.slice (.int .i16)) p1] (pst p2 p3 p4))),(1,some (.cells [.int .i64 p5])),(2,some (.cells [.pf 0 (tcs p0).length 0])),(3,some (.cells [.fn 192 [.p 5 0]])),(4,some (.cells [.p 0 0])),(5,some (.cells [.int .i64 p6]))] (sync_Once_Do_2.res p0 p1 p2 p3 p4 p5 p6 r) (sync_Once_Do_2.out p0 p1 p2 p3 p4 p5 p6 r):=by
 refine Fn_of Tryz.func204 rfl (Nat.le_of_ble_eq_true rfl) fun Γ=>?_
 unfold sync_Once_Do_2 at h0
 refine zr ?_
 refine zv 3 rfl ⟨tv,tv,tv,tv⟩ ?_
 obtain ⟨⟨⟩,hr,h0⟩:=bnd h0
 refine TL_callB [(0,0)] (sync_atomic_Bool_Load_2.ok0 hr) sync_atomic_Bool_Load_2.fnb rfl ⟨tv,⟨tv,tv⟩⟩ rfl ⟨.inr rfl,tv⟩ rfl ?_
 refine zv 1 rfl ⟨tv,tv⟩ ?_
 refine ze ?_
 refine TC_cond rfl (fun hb=>?_) (fun hb=>?_)
 ·first | exact (ftf hb).elim | exact (tff hb).elim | exact absurd hb (by decide)
 ·refine TC_skip ?_
  obtain rfl:=sinj h0
  exact TE_end env rfl tv ⟨.inr rfl,.inr rfl,.inr rfl,.inr rfl,.inr rfl,.inr rfl,tv⟩
theorem sync_Once_Do_2.ok0 {K : Nat} {p0 : List (Option (List Int))} {p1 : List Int} {p2 : List (Option (List Int))} {p3 p4 p5 p6 : Int}  (h0 : sync_Once_Do_2 K p0 p1 p2 p3 p4 p5 p6 = some ()) : Fn Tryz.prog 204 [.pf 0 (tcs p0).length 0,.fn 205 [.p 1 0,.p 2 0,.p 3 0,.p 4 0]] [(0,some (.foc (tcs p0) [.int .u32 1,.int .i32 0,.int .u32 0,.im (.slice (.int .i16)) p1] (pst p2 p3 p4))),(1,some (.cells [.int .i64 p5])),(2,some (.cells [.pf 0 (tcs p0).length 0])),(3,some (.cells [.fn 192 [.p 5 0]])),(4,some (.cells [.p 0 0])),(5,some (.cells [.int .i64 p6]))] (.tup []) [(0,some (.foc (tcs p0) [.int .u32 1,.int .i32 0,.int .u32 0,.im (.slice (.int .i16)) p1] (pst p2 p3 p4))),(1,some (.cells [.int .i64 p5])),(2,some (.cells [.pf 0 (tcs p0).length 0])),(3,some (.cells [.fn 192 [.p 5 0]])),(4,some (.cells [.p 0 0])),(5,some (.cells [.int .i64 p6]))]:=sync_Once_Do_2.ok h0
theorem sync_Once_Do_2.fnb : fnb Tryz.prog 204 = true:=fnb_of Tryz.func204 rfl
def bank_Bank_tell_2.res (_t0 _t1 : List (Option (List Int))) (_l : List Int) (_p1 _p3 _p4 _p5 : Int) : (List Int) × Int → MV
 | (q0,_)=>.tup [.im (.slice (.int .i16)) q0,.int .i64 0]
def bank_Bank_tell_2.out (t0 t1 : List (Option (List Int))) (l : List Int) (_p1 p3 _p4 p5 : Int) : (List Int) × Int → List (Nat × Option MObj)
 | (_,q1)=>[(0,some (.foc (tcs t0) [.int .u32 1,.int .i32 0,.int .u32 0,.im (.slice (.int .i16)) l] (pst t1 p3 q1))),(1,some (.cells [.int .i64 p5]))]
theorem bank_Bank_tell_2.ok {K : Nat} {t0 t1 : List (Option (List Int))} {l : List Int} {p1 p3 p4 p5 : Int} {r : (List Int) × Int} (h0 : bank_Bank_tell_2 K t0 t1 l p1 p3 p4 p5 = some r) : Fn Tryz.prog 191 [.p 0 0,.pf 0 (tcs t0).length 0,.int .i64 p1,.fn 192 [.p 1 0]] [(0,some (.foc (tcs t0) [.int .u32 1,.int .i32 0,.int .u32 0,.im (.slice (.int .i16)) l] (pst t1 p3 p4))),(1,some (.cells [.int .i64 p5]))] (bank_Bank_tell_2.res t0 t1 l p1 p3 p4 p5 r) (bank_Bank_tell_2.out t0 t1 l p1 p3 p4 p5 r):=by
 refine Fn_of Tryz.func191 rfl (Nat.le_of_ble_eq_true rfl) fun Γ=>?_
 refine zr ?_
 refine zv 6 rfl ⟨tv,tv,tv,tv,tv,tv,tv⟩ ?_
 refine zn ?_
 refine zv 4 rfl ⟨⟨tv,tv⟩,tv,tv,⟨tv,tv,tv,tv,tv⟩,tv⟩ ?_
 obtain ⟨⟨⟩,hr,h0⟩:=bnd h0
 refine TL_callB [(0,0),(1,1006),(2,1005),(3,1007),(4,1004),(5,1)] (sync_Once_Do_2.ok0 hr) sync_Once_Do_2.fnb rfl ⟨tv,⟨tv,⟨tv,tv⟩⟩⟩ rfl ⟨.inr rfl,.inr rfl,.inr rfl,.inr rfl,.inr rfl,.inr rfl,tv⟩ rfl ?_
 refine zn ?_
 refine zv 3 rfl ⟨⟨tv,tv⟩,tv,tv,tv⟩ ?_
 obtain ⟨r3,hr,h0⟩:=bnd h0
 refine TL_callB [(0,0)] (sync_atomic_Int64_Add_2.ok0 hr) sync_atomic_Int64_Add_2.fnb rfl ⟨tv,⟨tv,⟨tv,tv⟩⟩⟩ rfl ⟨.inr rfl,tv⟩ rfl ?_
 refine zn ?_
 refine zv 4 rfl ⟨⟨tv,tv⟩,tv,tv,⟨tv,rfl⟩,tv⟩ ?_
 obtain ⟨r4,hr,h0⟩:=bnd h0
 refine TL_callB [] (slices_Clone_int16_int16.ok0 hr) slices_Clone_int16_int16.fnb rfl ⟨tv,⟨tv,tv⟩⟩ rfl tv rfl ?_
 refine zv 2 rfl ⟨tv,tv,tv⟩ ?_
 refine ze ?_
 refine TC_ret ?_
 obtain rfl:=sinj h0
 exact TE_ret env rfl tv ⟨.inr rfl,.inr rfl,tv⟩
theorem bank_Bank_tell_2.ok0 {K : Nat} {t0 t1 : List (Option (List Int))} {l : List Int} {p1 p3 p4 p5 : Int} {q0 : List Int} {q1 : Int} (h0 : bank_Bank_tell_2 K t0 t1 l p1 p3 p4 p5 = some (q0,q1)) : Fn Tryz.prog 191 [.p 0 0,.pf 0 (tcs t0).length 0,.int .i64 p1,.fn 192 [.p 1 0]] [(0,some (.foc (tcs t0) [.int .u32 1,.int .i32 0,.int .u32 0,.im (.slice (.int .i16)) l] (pst t1 p3 p4))),(1,some (.cells [.int .i64 p5]))] (.tup [.im (.slice (.int .i16)) q0,.int .i64 0]) [(0,some (.foc (tcs t0) [.int .u32 1,.int .i32 0,.int .u32 0,.im (.slice (.int .i16)) l] (pst t1 p3 q1))),(1,some (.cells [.int .i64 p5]))]:=bank_Bank_tell_2.ok h0
theorem bank_Bank_tell_2.fnb : fnb Tryz.prog 191 = true:=fnb_of Tryz.func191 rfl
theorem bank_Bank_tell_3.ok0 {K p0 : Nat} {p1 : Int} {p2 : List (Option (List Int))} {p3 p4 p5 : Int} {q0 : List Int} {q1 : List (Option (List Int))} {q2 q3 : Int} (h0 : bank_Bank_tell_3 K p0 p1 p2 p3 p4 p5 = some (q0,q1,q2,q3)) : Fn Tryz.prog 191 [.p 0 0,.p 0 p0,.int .i64 p1,.fn 192 [.p 1 0]] [(0,some (.ab (bkA p2 p3 p4))),(1,some (.cells [.int .i64 p5]))] (.tup [.im (.slice (.int .i16)) q0,.int .i64 0]) [(0,some (.ab (bkA q1 q2 q3))),(1,some (.cells [.int .i64 p5]))]:=by
 unfold bank_Bank_tell_3 at h0
 obtain ⟨⟨g1,g2,g3⟩,h0⟩:=gd_t h0
 split at h0
 ·rename_i hx
  obtain ⟨⟨q0',q1',q2',q3'⟩,hr,h0⟩:=bnd h0
  simp only [Option.some.injEq,Prod.mk.injEq] at h0
  obtain ⟨rfl,rfl,rfl,rfl⟩:=h0
  have hF:=tell_fn (x:=none) (x':=some q1') (bank_Bank_tell.ok0 hr)
  rw [tk hx,tcs_at g1 g2 g3] at hF
  exact hF
 ·rename_i l hx
  obtain ⟨⟨q0',q1'⟩,hr,h0⟩:=bnd h0
  simp only [Option.some.injEq,Prod.mk.injEq] at h0
  obtain ⟨rfl,rfl,rfl,rfl⟩:=h0
  have hF:=tell_fn (x:=some l) (x':=some l) (bank_Bank_tell_2.ok0 hr)
  rw [tk hx,tcs_at g1 g2 g3] at hF
  exact hF
 ·cases h0
theorem bank_Bank_tell_3.fnb : fnb Tryz.prog 191 = true:=fnb_of Tryz.func191 rfl
def bank_Bank_Filter.res (_p0 : Int) (_p1 : List (Option (List Int))) (_p2 _p3 : Int) : (List Int) × Int × (List (Option (List Int))) × Int × Int → MV
 | (q0,q1,_,_,_)=>.tup [.im (.slice (.int .i16)) q0,.int .i64 q1]
def bank_Bank_Filter.out (_p0 : Int) (_p1 : List (Option (List Int))) (_p2 _p3 : Int) : (List Int) × Int × (List (Option (List Int))) × Int × Int → List (Nat × Option MObj)
 | (_,_,q2,q3,q4)=>[(0,some (.ab (bkA q2 q3 q4)))]
theorem bank_Bank_Filter.ok {K : Nat} {p0 : Int} {p1 : List (Option (List Int))} {p2 p3 : Int} {r : (List Int) × Int × (List (Option (List Int))) × Int × Int} (h0 : bank_Bank_Filter K p0 p1 p2 p3 = some r) : Fn Tryz.prog 168 [.p 0 0,.int .i64 p0] [(0,some (.ab (bkA p1 p2 p3)))] (bank_Bank_Filter.res p0 p1 p2 p3 r) (bank_Bank_Filter.out p0 p1 p2 p3 r):=by
 refine Fn_of Tryz.func168 rfl (Nat.le_of_ble_eq_true rfl) fun Γ=>?_
 refine zr ?_
 refine zv 3 rfl ⟨tv,tv,tv,tv⟩ ?_
 refine ze ?_
 refine TC_seq ?_
 refine zr ?_
 refine zv 7 rfl ⟨tv,⟨tv,tv⟩,⟨tv,tv,tv⟩,tv,fun eg=>⟨tv,tv⟩,fun eg=>⟨fun e=>e,tv,tv⟩,⟨tv,tv,fun e=>e⟩,tv⟩ ?_
 obtain ⟨z,hr,h0⟩:=bnd h0
 rcases z with ⟨⟩ | ⟨⟩
 ·refine TL_callB [(0,0)] (bank_Bank_may.ok0 hr) bank_Bank_may.fnb rfl ⟨tv,⟨tv,⟨tv,tv⟩⟩⟩ rfl ⟨.inr rfl,tv⟩ rfl ?_
  refine zv 1 rfl ⟨tv,tv⟩ ?_
  refine zn ?_
  refine zv 2 rfl ⟨tv,⟨tv,tv,tv⟩,tv⟩ ?_
  refine ze ?_
  refine TC_cond rfl (fun hb=>?_) (fun hb=>?_)
  ·refine zr ?_
   refine zv 3 rfl ⟨tv,tv,tv,tv⟩ ?_
   refine ze ?_
   refine TC_ret ?_
   refine tsr ?_
   refine TE_imn 4 (.int .i16) rfl ?_
   obtain rfl:=sinj h0
   exact TE_ret env rfl tv ⟨.inr rfl,tv⟩
  ·first | exact (ftf hb).elim | exact (tff hb).elim | exact absurd hb (by decide)
 ·refine TL_callB [(0,0)] (bank_Bank_may.ok1 hr) bank_Bank_may.fnb rfl ⟨tv,⟨tv,⟨tv,tv⟩⟩⟩ rfl ⟨.inr rfl,tv⟩ rfl ?_
  refine zv 1 rfl ⟨tv,tv⟩ ?_
  refine zn ?_
  refine zv 2 rfl ⟨tv,⟨tv,tv,tv⟩,tv⟩ ?_
  refine ze ?_
  refine TC_cond rfl (fun hb=>?_) (fun hb=>?_)
  ·first | exact (ftf hb).elim | exact (tff hb).elim | exact absurd hb (by decide)
  ·refine TC_skip ?_
   refine TE_go ?_
   refine TC_seq ?_
   refine TC_renw (A':=[(0,.p 0 0),(3,.p 1003 0),(4,.nils),(5,.int .i64 0)]) (L':=[(0,some (.ab (bkA _ _ _))),(1003,some (.cells [.int .i64 _]))]) [] ⟨rfl,rfl,rfl,rfl,tv⟩ ⟨rfl,rfl,tv⟩ rfl ?_
   refine zd [[],[],[],[2],[1],[4,1],[5,4,3,2,1],[],[7],[],[9,8,7,6,5,4,3,2,1,0],[10,9,8,7,6,5,4,3,2,1,0],[10,9,8,7,6,5,4,3,2,1,0],[12,11,10,9,8,7,6,5,4,3,2,1,0],[13,12,11,10,9,8,7,6,5,4,3,2,1,0]] [[],[],[],[],[],[],[],[],[],[],[0,1003],[],[],[],[]] [[],[],[],[],[],[],[],[],[],[],[],[],[],[],[]] [[],[],[],[],[],[],[],[],[],[],[],[],[],[],[]] (by kernel_rfl) (by kernel_rfl) ?_
   refine zj 1 rfl rfl rfl tv ?_
   refine zj 2 rfl rfl rfl tv ?_
   refine zj 3 rfl rfl rfl ⟨tv,tv⟩ ?_
   refine zj 4 rfl rfl rfl ⟨tv,tv,(by decide)⟩ ?_
   refine zj 5 rfl rfl rfl tv ?_
   refine zj 6 rfl rfl rfl tv ?_
   obtain ⟨g,h0⟩:=gd_t h0
   refine zj 7 rfl rfl rfl ⟨tv,tv,g.1,g.2⟩ ?_
   refine zj 8 rfl rfl rfl ⟨tv,tv⟩ ?_
   refine zj 9 rfl rfl rfl ⟨tv,tv,tv⟩ ?_
   refine zj 10 rfl rfl rfl ⟨tv,tv⟩ ?_
   obtain ⟨⟨r9,r10,r11,r12⟩,hr,h0⟩:=bnd h0
   refine AJR_call 11 rfl (Nat.le_of_ble_eq_true rfl) [(0,0),(1,1003)] rfl (bank_Bank_tell_3.ok0 hr) bank_Bank_tell_3.fnb rfl ⟨tv,⟨tv,⟨tv,⟨tv,⟨tv,tv⟩⟩⟩⟩⟩ rfl ⟨.inr rfl,.inr rfl,tv⟩ rfl ?_
   refine zj 12 rfl rfl rfl tv ?_
   refine zj 13 rfl rfl rfl tv ?_
   refine zj 14 rfl rfl rfl tv ?_
   refine zj 15 rfl rfl rfl tv ?_
   refine AJR_end rfl rfl rfl ?_
   refine zu ?_
   obtain rfl:=sinj h0
   exact TE_ret env rfl tv ⟨.inr rfl,tv⟩
theorem bank_Bank_Filter.ok0 {K : Nat} {p0 : Int} {p1 : List (Option (List Int))} {p2 p3 : Int} {q0 : List Int} {q1 : Int} {q2 : List (Option (List Int))} {q3 q4 : Int} (h0 : bank_Bank_Filter K p0 p1 p2 p3 = some (q0,q1,q2,q3,q4)) : Fn Tryz.prog 168 [.p 0 0,.int .i64 p0] [(0,some (.ab (bkA p1 p2 p3)))] (.tup [.im (.slice (.int .i16)) q0,.int .i64 q1]) [(0,some (.ab (bkA q2 q3 q4)))]:=bank_Bank_Filter.ok h0
theorem bank_Bank_Filter.fnb : fnb Tryz.prog 168 = true:=fnb_of Tryz.func168 rfl
def bank_Bank_Turn_1.res (_p0 _p1 : Int) : Int → MV
 | q0=>.int .i16 q0
def bank_Bank_Turn_1.out (_p0 p1 : Int) : Int → List (Nat × Option MObj)
 | _=>[(0,some (.cells [.int .i64 p1]))]
theorem bank_Bank_Turn_1.ok {K : Nat} {p0 p1 r : Int} (h0 : bank_Bank_Turn_1 K p0 p1 = some r) : Fn Tryz.prog 194 [.int .i64 p0,.p 0 0] [(0,some (.cells [.int .i64 p1]))] (bank_Bank_Turn_1.res p0 p1 r) (bank_Bank_Turn_1.out p0 p1 r):=by
 refine Fn_of Tryz.func194 rfl (Nat.le_of_ble_eq_true rfl) fun Γ=>?_
 refine zr ?_
 refine zv 1 rfl ⟨tv,tv⟩ ?_
 refine zn ?_
 refine zv 2 rfl ⟨tv,⟨tv,tv⟩,tv⟩ ?_
 obtain ⟨⟨r3,r4⟩,hr,h0⟩:=bnd h0
 refine TL_callB [] (wave_Cosine.ok0 hr) wave_Cosine.fnb rfl ⟨tv,⟨tv,⟨tv,tv⟩⟩⟩ rfl tv rfl ?_
 refine zv 5 rfl ⟨tv,tv,tv,tv,tv,tv⟩ ?_
 refine zn ?_
 refine zv 2 rfl ⟨tv,tv,tv⟩ ?_
 refine ze ?_
 refine TC_ret ?_
 obtain rfl:=sinj h0
 exact TE_ret env rfl tv ⟨.inr rfl,tv⟩
theorem bank_Bank_Turn_1.ok0 {K : Nat} {p0 p1 q0 : Int} (h0 : bank_Bank_Turn_1 K p0 p1 = some q0) : Fn Tryz.prog 194 [.int .i64 p0,.p 0 0] [(0,some (.cells [.int .i64 p1]))] (.int .i16 q0) [(0,some (.cells [.int .i64 p1]))]:=bank_Bank_Turn_1.ok h0
theorem bank_Bank_Turn_1.fnb : fnb Tryz.prog 194 = true:=fnb_of Tryz.func194 rfl
def bank_Bank_tell_1_2.res (_p0 _p1 : List (Option (List Int))) (_p2 _p3 _p4 _p5 : Int) : (List Int) × Int → MV
 | (_,_)=>.tup []
def bank_Bank_tell_1_2.out (p0 p1 : List (Option (List Int))) (_p2 p3 p4 p5 : Int) : (List Int) × Int → List (Nat × Option MObj)
 | (q0,q1)=>[(0,some (.foc (tcs p0) [.int .u32 0,.int .i32 1,.int .u32 0,.im (.slice (.int .i16)) q0] (pst p1 q1 p3))),(1,some (.cells [.int .i64 p4])),(2,some (.cells [.pf 0 (tcs p0).length 0])),(3,some (.cells [.fn 194 [.p 5 0]])),(4,some (.cells [.p 0 0])),(5,some (.cells [.int .i64 p5]))]
theorem bank_Bank_tell_1_2.ok {K : Nat} {p0 p1 : List (Option (List Int))} {p2 p3 p4 p5 : Int} {r : (List Int) × Int} (h0 : bank_Bank_tell_1_2 K p0 p1 p2 p3 p4 p5 = some r) : Fn Tryz.prog 205 [.p 1 0,.p 2 0,.p 3 0,.p 4 0] [(0,some (.foc (tcs p0) [.int .u32 0,.int .i32 1,.int .u32 0,.nils] (pst p1 p2 p3))),(1,some (.cells [.int .i64 p4])),(2,some (.cells [.pf 0 (tcs p0).length 0])),(3,some (.cells [.fn 194 [.p 5 0]])),(4,some (.cells [.p 0 0])),(5,some (.cells [.int .i64 p5]))] (bank_Bank_tell_1_2.res p0 p1 p2 p3 p4 p5 r) (bank_Bank_tell_1_2.out p0 p1 p2 p3 p4 p5 r):=by
 refine Fn_of Tryz.func205 rfl (Nat.le_of_ble_eq_true rfl) fun Γ=>?_
 refine TC_seq ?_
 refine TC_renw (A':=[(0,.p 1 0),(1,.p 2 0),(2,.p 3 0),(3,.p 4 0)]) (L':=[(0,some (.foc (tcs _) [.int .u32 0,.int .i32 1,.int .u32 0,.nils] (pst _ _ _))),(1,some (.cells [.int .i64 _])),(2,some (.cells [.pf 0 (tcs _).length 0])),(3,some (.cells [.fn 194 [.p 5 0]])),(4,some (.cells [.p 0 0])),(5,some (.cells [.int .i64 _]))]) [] ⟨rfl,rfl,rfl,rfl,tv⟩ ⟨rfl,rfl,rfl,rfl,rfl,rfl,tv⟩ rfl ?_
 refine zd [[],[],[1],[2,1,0],[3,2,1,0],[4,3,2,1,0]] [[],[],[1007],[],[],[0]] [[],[],[1007],[],[],[]] [[1007],[],[],[],[],[]] (by kernel_rfl) (by kernel_rfl) ?_
 refine zj 1 rfl rfl rfl ⟨tv,tv⟩ ?_
 refine zj 2 rfl rfl rfl ⟨tv,tv⟩ ?_
 obtain ⟨g,h0⟩:=gd_t h0
 refine zj 3 rfl rfl rfl ⟨tv,tv,g.1,g.2.1,g.2.2⟩ ?_
 refine zj 4 rfl rfl rfl tv ?_
 refine zj 5 rfl rfl rfl tv ?_
 refine zj 6 rfl rfl rfl ⟨tv,tv,rfl⟩ ?_
 refine AJR_end rfl rfl rfl ?_
 refine TE_go ?_
 refine TC_seq ?_
 refine zr ?_
 refine zv 6 rfl ⟨⟨tv,tv⟩,tv,tv,⟨tv,rfl⟩,⟨tv,tv⟩,tv,tv⟩ ?_
 refine ze ?_
 obtain ⟨z1,h1,h0⟩:=bnd h0
 refine TC_cut (α:=(List Int)) (fun s=>z1 = s) (fun s=>[(3,.p 4 0)]) (fun s=>[(0,some (.foc (tcs p0) [.int .u32 0,.int .i32 1,.int .u32 0,.sl 10806] (pst p1 p2 p3))),(1,some (.cells [.int .i64 p4])),(2,some (.cells [.pf 0 (tcs p0).length 0])),(3,some (.cells [.fn 194 [.p 5 0]])),(4,some (.cells [.p 0 0])),(5,some (.cells [.int .i64 p5])),(10806,some (.rows (.int .i16) s))]) ?_ ?_
 ·refine TC_blk ?_
  refine TC_loop (α:=Int × (List Int)) (fun n s=>bank_Bank_tell_1_2.l0 K ((List.replicate (Int.toNat p4) (0 : Int)).length : Int) p0 p1 p2 p3 p4 p5 n s.1 s.2 = some z1) (fun s=>[(1,.p 2 0),(2,.p 3 0),(3,.p 4 0),(14,.int .i64 ((List.replicate (Int.toNat p4) (0 : Int)).length : Int)),(15,.int .i64 s.1)]) (fun s=>[(0,some (.foc (tcs p0) [.int .u32 0,.int .i32 1,.int .u32 0,.sl 11006] (pst p1 p2 p3))),(1,some (.cells [.int .i64 p4])),(2,some (.cells [.pf 0 (tcs p0).length 0])),(3,some (.cells [.fn 194 [.p 5 0]])),(4,some (.cells [.p 0 0])),(5,some (.cells [.int .i64 p5])),(11006,some (.rows (.int .i16) s.2))]) K ?_ ?_
  ·exact SP_ren [(11006,1007)] (_,_) h1 ⟨rfl,rfl,rfl,rfl,rfl,tv⟩ ⟨rfl,rfl,rfl,rfl,rfl,rfl,rfl,tv⟩ rfl
  rintro n ⟨x25,x26⟩ h1
  rcases n with _ | n
  ·exact (nsome h1).elim
  replace h1 : bank_Bank_tell_1_2.r0 K ((List.replicate (Int.toNat p4) (0 : Int)).length : Int) p0 p1 p2 p3 p4 p5 (bank_Bank_tell_1_2.l0 K ((List.replicate (Int.toNat p4) (0 : Int)).length : Int) p0 p1 p2 p3 p4 p5 n) x25 x26 = some z1:=h1
  refine zr ?_
  refine zv 1 rfl ⟨⟨tv,tv,tv⟩,tv⟩ ?_
  refine ze ?_
  refine TC_seq ?_
  refine TC_cond rfl (fun hb=>?_) (fun hb=>?_)
  ·replace h1:=bif_t h1 hb
   refine TC_skip ?_
   refine TE_go ?_
   refine TC_seq ?_
   refine TC_blk ?_
   refine zr ?_
   refine zv 2 rfl ⟨tv,tv,tv⟩ ?_
   refine ze ?_
   refine TC_renw (A':=[(1,.p 2 0),(2,.p 3 0),(3,.p 4 0),(4,.int .i64 _),(14,.int .i64 _),(15,.int .i64 _)]) (L':=[(0,some (.foc (tcs _) [.int .u32 0,.int .i32 1,.int .u32 0,.sl 11006] (pst _ _ _))),(1,some (.cells [.int .i64 _])),(2,some (.cells [.pf 0 (tcs _).length 0])),(3,some (.cells [.fn 194 [.p 5 0]])),(4,some (.cells [.p 0 0])),(5,some (.cells [.int .i64 _])),(11006,some (.rows (.int .i16) _))]) [] ⟨rfl,rfl,rfl,rfl,rfl,rfl,tv⟩ ⟨rfl,rfl,rfl,rfl,rfl,rfl,rfl,tv⟩ rfl ?_
   refine zd [[],[0],[1,0],[2,1,0],[],[],[],[6,5],[7,6,5,4,3,2,1,0],[8,7,6,5,4,3,2,1,0]] [[],[],[],[],[],[],[],[],[],[11006]] [[],[],[],[],[],[],[],[],[],[]] [[],[],[],[],[],[],[],[],[],[]] (by kernel_rfl) (by kernel_rfl) ?_
   refine zj 1 rfl rfl rfl ⟨tv,tv⟩ ?_
   refine zj 2 rfl rfl rfl tv ?_
   refine zj 3 rfl rfl rfl tv ?_
   refine zj 4 rfl rfl rfl ⟨tv,rfl⟩ ?_
   refine zj 5 rfl rfl rfl tv ?_
   refine zj 6 rfl rfl rfl ⟨tv,tv⟩ ?_
   refine zj 7 rfl rfl rfl tv ?_
   obtain ⟨r33,hr,h1⟩:=bnd h1
   refine AJR_callS 8 rfl (Nat.le_of_ble_eq_true rfl) [(0,5)] rfl (bank_Bank_Turn_1.ok0 hr) bank_Bank_Turn_1.fnb rfl ⟨tv,⟨tv,tv⟩⟩ rfl ⟨.inr rfl,tv⟩ rfl ⟨⟨rfl,rfl⟩,tv⟩ ?_
   obtain ⟨g,h1⟩:=gd_t h1
   refine zj 9 rfl rfl rfl ⟨tv,tv,g.1,g.2⟩ ?_
   obtain ⟨g,h1⟩:=gd_t h1
   refine zj 10 rfl rfl rfl ⟨tv,tv,g⟩ ?_
   refine AJR_end rfl rfl rfl ?_
   refine tbn ?_
   refine zt ?_
   refine zv 2 rfl ⟨⟨tv,tv,tv⟩,tv,tv⟩ ?_
   refine zm ?_
   exact TE_nextr [(11006,11006)] n (zs n) (_,_) h1 ⟨rfl,rfl,rfl,rfl,rfl,tv⟩ ⟨rfl,rfl,rfl,rfl,rfl,rfl,rfl,tv⟩ rfl
  ·replace h1:=bif_f h1 hb
   refine TC_exit ?_
   refine tsx ?_
   refine tsx ?_
   refine tbe ?_
   obtain rfl:=sinj h1
   refine tsn ?_
   exact SP_ren [(10806,11006)] _ rfl ⟨rfl,tv⟩ ⟨rfl,rfl,rfl,rfl,rfl,rfl,rfl,tv⟩ rfl
 ·rintro x21 hz
  obtain rfl:=hz.symm
  refine zt ?_
  refine zv 3 rfl ⟨⟨tv,tv⟩,tv,tv,tv⟩ ?_
  refine TL_frz 10806 rfl ?_
  obtain ⟨r22,hr,h0⟩:=bnd h0
  refine TL_callB [(0,0)] (sync_atomic_Int64_Add.ok0 hr) sync_atomic_Int64_Add.fnb rfl ⟨tv,⟨tv,⟨tv,tv⟩⟩⟩ rfl ⟨.inr rfl,tv⟩ rfl ?_
  refine TL_end ?_
  obtain rfl:=sinj h0
  exact TE_end env rfl tv ⟨.inr rfl,.inr rfl,.inr rfl,.inr rfl,.inr rfl,.inr rfl,tv⟩
theorem bank_Bank_tell_1_2.ok0 {K : Nat} {p0 p1 : List (Option (List Int))} {p2 p3 p4 p5 : Int} {q0 : List Int} {q1 : Int} (h0 : bank_Bank_tell_1_2 K p0 p1 p2 p3 p4 p5 = some (q0,q1)) : Fn Tryz.prog 205 [.p 1 0,.p 2 0,.p 3 0,.p 4 0] [(0,some (.foc (tcs p0) [.int .u32 0,.int .i32 1,.int .u32 0,.nils] (pst p1 p2 p3))),(1,some (.cells [.int .i64 p4])),(2,some (.cells [.pf 0 (tcs p0).length 0])),(3,some (.cells [.fn 194 [.p 5 0]])),(4,some (.cells [.p 0 0])),(5,some (.cells [.int .i64 p5]))] (.tup []) [(0,some (.foc (tcs p0) [.int .u32 0,.int .i32 1,.int .u32 0,.im (.slice (.int .i16)) q0] (pst p1 q1 p3))),(1,some (.cells [.int .i64 p4])),(2,some (.cells [.pf 0 (tcs p0).length 0])),(3,some (.cells [.fn 194 [.p 5 0]])),(4,some (.cells [.p 0 0])),(5,some (.cells [.int .i64 p5]))]:=bank_Bank_tell_1_2.ok h0
theorem bank_Bank_tell_1_2.fnb : fnb Tryz.prog 205 = true:=fnb_of Tryz.func205 rfl
theorem sync_Once_doSlow_2.ok0 {K : Nat} {p0 p1 : List (Option (List Int))} {p2 p3 p4 p5 : Int} {q0 : List Int} {q1 : Int} (h0 : sync_Once_doSlow_2 K p0 p1 p2 p3 p4 p5 = some (q0,q1)) : Fn Tryz.prog 214 [.pf 0 (tcs p0).length 0,.fn 205 [.p 1 0,.p 2 0,.p 3 0,.p 4 0]] [(0,some (.foc (tcs p0) [.int .u32 0,.int .i32 0,.int .u32 0,.nils] (pst p1 p2 p3))),(1,some (.cells [.int .i64 p4])),(2,some (.cells [.pf 0 (tcs p0).length 0])),(3,some (.cells [.fn 194 [.p 5 0]])),(4,some (.cells [.p 0 0])),(5,some (.cells [.int .i64 p5]))] (.tup []) [(0,some (.foc (tcs p0) [.int .u32 1,.int .i32 0,.int .u32 0,.im (.slice (.int .i16)) q0] (pst p1 q1 p3))),(1,some (.cells [.int .i64 p4])),(2,some (.cells [.pf 0 (tcs p0).length 0])),(3,some (.cells [.fn 194 [.p 5 0]])),(4,some (.cells [.p 0 0])),(5,some (.cells [.int .i64 p5]))]:=by
 exact slow_fn rfl (bank_Bank_tell_1_2.ok0 h0)
theorem sync_Once_doSlow_2.fnb : fnb Tryz.prog 214 = true:=fnb_of Tryz.func214 rfl
def sync_Once_Do_3.res (_p0 _p1 : List (Option (List Int))) (_p2 _p3 _p4 _p5 : Int) : (List Int) × Int → MV
 | (_,_)=>.tup []
def sync_Once_Do_3.out (p0 p1 : List (Option (List Int))) (_p2 p3 p4 p5 : Int) : (List Int) × Int → List (Nat × Option MObj)
 | (q0,q1)=>[(0,some (.foc (tcs p0) [.int .u32 1,.int .i32 0,.int .u32 0,.im (.slice (.int .i16)) q0] (pst p1 q1 p3))),(1,some (.cells [.int .i64 p4])),(2,some (.cells [.pf 0 (tcs p0).length 0])),(3,some (.cells [.fn 194 [.p 5 0]])),(4,some (.cells [.p 0 0])),(5,some (.cells [.int .i64 p5]))]
theorem sync_Once_Do_3.ok {K : Nat} {p0 p1 : List (Option (List Int))} {p2 p3 p4 p5 : Int} {r : (List Int) × Int} (h0 : sync_Once_Do_3 K p0 p1 p2 p3 p4 p5 = some r) : Fn Tryz.prog 204 [.pf 0 (tcs p0).length 0,.fn 205 [.p 1 0,.p 2 0,.p 3 0,.p 4 0]] [(0,some (.foc (tcs p0) [.int .u32 0,.int .i32 0,.int .u32 0,.nils] (pst p1 p2 p3))),(1,some (.cells [.int .i64 p4])),(2,some (.cells [.pf 0 (tcs p0).length 0])),(3,some (.cells [.fn 194 [.p 5 0]])),(4,some (.cells [.p 0 0])),(5,some (.cells [.int .i64 p5]))] (sync_Once_Do_3.res p0 p1 p2 p3 p4 p5 r) (sync_Once_Do_3.out p0 p1 p2 p3 p4 p5 r):=by
 refine Fn_of Tryz.func204 rfl (Nat.le_of_ble_eq_true rfl) fun Γ=>?_
 refine zr ?_
 refine zv 3 rfl ⟨tv,tv,tv,tv⟩ ?_
 obtain ⟨⟨⟩,hr,h0⟩:=bnd h0
 refine TL_callB [(0,0)] (sync_atomic_Bool_Load.ok0 hr) sync_atomic_Bool_Load.fnb rfl ⟨tv,⟨tv,tv⟩⟩ rfl ⟨.inr rfl,tv⟩ rfl ?_
 refine zv 1 rfl ⟨tv,tv⟩ ?_
 refine ze ?_
 refine TC_cond rfl (fun hb=>?_) (fun hb=>?_)
 ·refine TC_reg ?_
  refine zv 2 rfl ⟨tv,tv,tv⟩ ?_
  obtain ⟨⟨r3,r4⟩,hr,h0⟩:=bnd h0
  refine TL_callB [(0,0),(1,1),(2,2),(3,3),(4,4),(5,5)] (sync_Once_doSlow_2.ok0 hr) sync_Once_doSlow_2.fnb rfl ⟨tv,⟨tv,⟨tv,tv⟩⟩⟩ rfl ⟨.inr rfl,.inr rfl,.inr rfl,.inr rfl,.inr rfl,.inr rfl,tv⟩ rfl ?_
  refine TL_end ?_
  obtain rfl:=sinj h0
  exact TE_end env rfl tv ⟨.inr rfl,.inr rfl,.inr rfl,.inr rfl,.inr rfl,.inr rfl,tv⟩
 ·first | exact (ftf hb).elim | exact (tff hb).elim | exact absurd hb (by decide)
theorem sync_Once_Do_3.ok0 {K : Nat} {p0 p1 : List (Option (List Int))} {p2 p3 p4 p5 : Int} {q0 : List Int} {q1 : Int} (h0 : sync_Once_Do_3 K p0 p1 p2 p3 p4 p5 = some (q0,q1)) : Fn Tryz.prog 204 [.pf 0 (tcs p0).length 0,.fn 205 [.p 1 0,.p 2 0,.p 3 0,.p 4 0]] [(0,some (.foc (tcs p0) [.int .u32 0,.int .i32 0,.int .u32 0,.nils] (pst p1 p2 p3))),(1,some (.cells [.int .i64 p4])),(2,some (.cells [.pf 0 (tcs p0).length 0])),(3,some (.cells [.fn 194 [.p 5 0]])),(4,some (.cells [.p 0 0])),(5,some (.cells [.int .i64 p5]))] (.tup []) [(0,some (.foc (tcs p0) [.int .u32 1,.int .i32 0,.int .u32 0,.im (.slice (.int .i16)) q0] (pst p1 q1 p3))),(1,some (.cells [.int .i64 p4])),(2,some (.cells [.pf 0 (tcs p0).length 0])),(3,some (.cells [.fn 194 [.p 5 0]])),(4,some (.cells [.p 0 0])),(5,some (.cells [.int .i64 p5]))]:=sync_Once_Do_3.ok h0
theorem sync_Once_Do_3.fnb : fnb Tryz.prog 204 = true:=fnb_of Tryz.func204 rfl
def bank_Bank_tell_4.res (_t0 _t1 : List (Option (List Int))) (_p1 _p3 _p4 _p5 : Int) : (List Int) × (List Int) × Int × Int → MV
 | (q0,_,_,_)=>.tup [.im (.slice (.int .i16)) q0,.int .i64 0]
def bank_Bank_tell_4.out (t0 t1 : List (Option (List Int))) (_p1 _p3 _p4 p5 : Int) : (List Int) × (List Int) × Int × Int → List (Nat × Option MObj)
 | (_,q1,q2,q3)=>[(0,some (.foc (tcs t0) [.int .u32 1,.int .i32 0,.int .u32 0,.im (.slice (.int .i16)) q1] (pst t1 q2 q3))),(1,some (.cells [.int .i64 p5]))]
theorem bank_Bank_tell_4.ok {K : Nat} {t0 t1 : List (Option (List Int))} {p1 p3 p4 p5 : Int} {r : (List Int) × (List Int) × Int × Int} (h0 : bank_Bank_tell_4 K t0 t1 p1 p3 p4 p5 = some r) : Fn Tryz.prog 191 [.p 0 0,.pf 0 (tcs t0).length 0,.int .i64 p1,.fn 194 [.p 1 0]] [(0,some (.foc (tcs t0) [.int .u32 0,.int .i32 0,.int .u32 0,.nils] (pst t1 p3 p4))),(1,some (.cells [.int .i64 p5]))] (bank_Bank_tell_4.res t0 t1 p1 p3 p4 p5 r) (bank_Bank_tell_4.out t0 t1 p1 p3 p4 p5 r):=by
 refine Fn_of Tryz.func191 rfl (Nat.le_of_ble_eq_true rfl) fun Γ=>?_
 refine zr ?_
 refine zv 6 rfl ⟨tv,tv,tv,tv,tv,tv,tv⟩ ?_
 refine zn ?_
 refine zv 4 rfl ⟨⟨tv,tv⟩,tv,tv,⟨tv,tv,tv,tv,tv⟩,tv⟩ ?_
 obtain ⟨⟨r5,r6⟩,hr,h0⟩:=bnd h0
 refine TL_callB [(0,0),(1,1006),(2,1005),(3,1007),(4,1004),(5,1)] (sync_Once_Do_3.ok0 hr) sync_Once_Do_3.fnb rfl ⟨tv,⟨tv,⟨tv,tv⟩⟩⟩ rfl ⟨.inr rfl,.inr rfl,.inr rfl,.inr rfl,.inr rfl,.inr rfl,tv⟩ rfl ?_
 refine zn ?_
 refine zv 3 rfl ⟨⟨tv,tv⟩,tv,tv,tv⟩ ?_
 obtain ⟨r7,hr,h0⟩:=bnd h0
 refine TL_callB [(0,0)] (sync_atomic_Int64_Add_2.ok0 hr) sync_atomic_Int64_Add_2.fnb rfl ⟨tv,⟨tv,⟨tv,tv⟩⟩⟩ rfl ⟨.inr rfl,tv⟩ rfl ?_
 refine zn ?_
 refine zv 4 rfl ⟨⟨tv,tv⟩,tv,tv,⟨tv,rfl⟩,tv⟩ ?_
 obtain ⟨r8,hr,h0⟩:=bnd h0
 refine TL_callB [] (slices_Clone_int16_int16.ok0 hr) slices_Clone_int16_int16.fnb rfl ⟨tv,⟨tv,tv⟩⟩ rfl tv rfl ?_
 refine zv 2 rfl ⟨tv,tv,tv⟩ ?_
 refine ze ?_
 refine TC_ret ?_
 obtain rfl:=sinj h0
 exact TE_ret env rfl tv ⟨.inr rfl,.inr rfl,tv⟩
theorem bank_Bank_tell_4.ok0 {K : Nat} {t0 t1 : List (Option (List Int))} {p1 p3 p4 p5 : Int} {q0 q1 : List Int} {q2 q3 : Int} (h0 : bank_Bank_tell_4 K t0 t1 p1 p3 p4 p5 = some (q0,q1,q2,q3)) : Fn Tryz.prog 191 [.p 0 0,.pf 0 (tcs t0).length 0,.int .i64 p1,.fn 194 [.p 1 0]] [(0,some (.foc (tcs t0) [.int .u32 0,.int .i32 0,.int .u32 0,.nils] (pst t1 p3 p4))),(1,some (.cells [.int .i64 p5]))] (.tup [.im (.slice (.int .i16)) q0,.int .i64 0]) [(0,some (.foc (tcs t0) [.int .u32 1,.int .i32 0,.int .u32 0,.im (.slice (.int .i16)) q1] (pst t1 q2 q3))),(1,some (.cells [.int .i64 p5]))]:=bank_Bank_tell_4.ok h0
theorem bank_Bank_tell_4.fnb : fnb Tryz.prog 191 = true:=fnb_of Tryz.func191 rfl
def sync_Once_Do_4.res (_p0 : List (Option (List Int))) (_p1 : List Int) (_p2 : List (Option (List Int))) (_p3 _p4 _p5 _p6 : Int) : Unit → MV
 | ()=>.tup []
def sync_Once_Do_4.out (p0 : List (Option (List Int))) (p1 : List Int) (p2 : List (Option (List Int))) (p3 p4 p5 p6 : Int) : Unit → List (Nat × Option MObj)
 | ()=>[(0,some (.foc (tcs p0) [.int .u32 1,.int .i32 0,.int .u32 0,.im (.slice (.int .i16)) p1] (pst p2 p3 p4))),(1,some (.cells [.int .i64 p5])),(2,some (.cells [.pf 0 (tcs p0).length 0])),(3,some (.cells [.fn 194 [.p 5 0]])),(4,some (.cells [.p 0 0])),(5,some (.cells [.int .i64 p6]))]
theorem sync_Once_Do_4.ok {K : Nat} {p0 : List (Option (List Int))} {p1 : List Int} {p2 : List (Option (List Int))} {p3 p4 p5 p6 : Int} {r : Unit} (h0 : sync_Once_Do_4 K p0 p1 p2 p3 p4 p5 p6 = some r) : Fn Tryz.prog 204 [.pf 0 (tcs p0).length 0,.fn 205 [.p 1 0,.p 2 0,.p 3 0,.p 4 0]] [(0,some (.foc (tcs p0) [.int .u32 1,.int .i32 0,.int .u32 0,.im (.slice (.int .i16)) p1] (pst p2 p3 p4))),(1,some (.cells [.int .i64 p5])),(2,some (.cells [.pf 0 (tcs p0).length 0])),(3,some (.cells [.fn 194 [.p 5 0]])),(4,some (.cells [.p 0 0])),(5,some (.cells [.int .i64 p6]))] (sync_Once_Do_4.res p0 p1 p2 p3 p4 p5 p6 r) (sync_Once_Do_4.out p0 p1 p2 p3 p4 p5 p6 r):=by
 refine Fn_of Tryz.func204 rfl (Nat.le_of_ble_eq_true rfl) fun Γ=>?_
 unfold sync_Once_Do_4 at h0
 refine zr ?_
 refine zv 3 rfl ⟨tv,tv,tv,tv⟩ ?_
 obtain ⟨⟨⟩,hr,h0⟩:=bnd h0
 refine TL_callB [(0,0)] (sync_atomic_Bool_Load_2.ok0 hr) sync_atomic_Bool_Load_2.fnb rfl ⟨tv,⟨tv,tv⟩⟩ rfl ⟨.inr rfl,tv⟩ rfl ?_
 refine zv 1 rfl ⟨tv,tv⟩ ?_
 refine ze ?_
 refine TC_cond rfl (fun hb=>?_) (fun hb=>?_)
 ·first | exact (ftf hb).elim | exact (tff hb).elim | exact absurd hb (by decide)
 ·refine TC_skip ?_
  obtain rfl:=sinj h0
  exact TE_end env rfl tv ⟨.inr rfl,.inr rfl,.inr rfl,.inr rfl,.inr rfl,.inr rfl,tv⟩
theorem sync_Once_Do_4.ok0 {K : Nat} {p0 : List (Option (List Int))} {p1 : List Int} {p2 : List (Option (List Int))} {p3 p4 p5 p6 : Int}  (h0 : sync_Once_Do_4 K p0 p1 p2 p3 p4 p5 p6 = some ()) : Fn Tryz.prog 204 [.pf 0 (tcs p0).length 0,.fn 205 [.p 1 0,.p 2 0,.p 3 0,.p 4 0]] [(0,some (.foc (tcs p0) [.int .u32 1,.int .i32 0,.int .u32 0,.im (.slice (.int .i16)) p1] (pst p2 p3 p4))),(1,some (.cells [.int .i64 p5])),(2,some (.cells [.pf 0 (tcs p0).length 0])),(3,some (.cells [.fn 194 [.p 5 0]])),(4,some (.cells [.p 0 0])),(5,some (.cells [.int .i64 p6]))] (.tup []) [(0,some (.foc (tcs p0) [.int .u32 1,.int .i32 0,.int .u32 0,.im (.slice (.int .i16)) p1] (pst p2 p3 p4))),(1,some (.cells [.int .i64 p5])),(2,some (.cells [.pf 0 (tcs p0).length 0])),(3,some (.cells [.fn 194 [.p 5 0]])),(4,some (.cells [.p 0 0])),(5,some (.cells [.int .i64 p6]))]:=sync_Once_Do_4.ok h0
theorem sync_Once_Do_4.fnb : fnb Tryz.prog 204 = true:=fnb_of Tryz.func204 rfl
def bank_Bank_tell_5.res (_t0 _t1 : List (Option (List Int))) (_l : List Int) (_p1 _p3 _p4 _p5 : Int) : (List Int) × Int → MV
 | (q0,_)=>.tup [.im (.slice (.int .i16)) q0,.int .i64 0]
def bank_Bank_tell_5.out (t0 t1 : List (Option (List Int))) (l : List Int) (_p1 p3 _p4 p5 : Int) : (List Int) × Int → List (Nat × Option MObj)
 | (_,q1)=>[(0,some (.foc (tcs t0) [.int .u32 1,.int .i32 0,.int .u32 0,.im (.slice (.int .i16)) l] (pst t1 p3 q1))),(1,some (.cells [.int .i64 p5]))]
theorem bank_Bank_tell_5.ok {K : Nat} {t0 t1 : List (Option (List Int))} {l : List Int} {p1 p3 p4 p5 : Int} {r : (List Int) × Int} (h0 : bank_Bank_tell_5 K t0 t1 l p1 p3 p4 p5 = some r) : Fn Tryz.prog 191 [.p 0 0,.pf 0 (tcs t0).length 0,.int .i64 p1,.fn 194 [.p 1 0]] [(0,some (.foc (tcs t0) [.int .u32 1,.int .i32 0,.int .u32 0,.im (.slice (.int .i16)) l] (pst t1 p3 p4))),(1,some (.cells [.int .i64 p5]))] (bank_Bank_tell_5.res t0 t1 l p1 p3 p4 p5 r) (bank_Bank_tell_5.out t0 t1 l p1 p3 p4 p5 r):=by
 refine Fn_of Tryz.func191 rfl (Nat.le_of_ble_eq_true rfl) fun Γ=>?_
 refine zr ?_
 refine zv 6 rfl ⟨tv,tv,tv,tv,tv,tv,tv⟩ ?_
 refine zn ?_
 refine zv 4 rfl ⟨⟨tv,tv⟩,tv,tv,⟨tv,tv,tv,tv,tv⟩,tv⟩ ?_
 obtain ⟨⟨⟩,hr,h0⟩:=bnd h0
 refine TL_callB [(0,0),(1,1006),(2,1005),(3,1007),(4,1004),(5,1)] (sync_Once_Do_4.ok0 hr) sync_Once_Do_4.fnb rfl ⟨tv,⟨tv,⟨tv,tv⟩⟩⟩ rfl ⟨.inr rfl,.inr rfl,.inr rfl,.inr rfl,.inr rfl,.inr rfl,tv⟩ rfl ?_
 refine zn ?_
 refine zv 3 rfl ⟨⟨tv,tv⟩,tv,tv,tv⟩ ?_
 obtain ⟨r3,hr,h0⟩:=bnd h0
 refine TL_callB [(0,0)] (sync_atomic_Int64_Add_2.ok0 hr) sync_atomic_Int64_Add_2.fnb rfl ⟨tv,⟨tv,⟨tv,tv⟩⟩⟩ rfl ⟨.inr rfl,tv⟩ rfl ?_
 refine zn ?_
 refine zv 4 rfl ⟨⟨tv,tv⟩,tv,tv,⟨tv,rfl⟩,tv⟩ ?_
 obtain ⟨r4,hr,h0⟩:=bnd h0
 refine TL_callB [] (slices_Clone_int16_int16.ok0 hr) slices_Clone_int16_int16.fnb rfl ⟨tv,⟨tv,tv⟩⟩ rfl tv rfl ?_
 refine zv 2 rfl ⟨tv,tv,tv⟩ ?_
 refine ze ?_
 refine TC_ret ?_
 obtain rfl:=sinj h0
 exact TE_ret env rfl tv ⟨.inr rfl,.inr rfl,tv⟩
theorem bank_Bank_tell_5.ok0 {K : Nat} {t0 t1 : List (Option (List Int))} {l : List Int} {p1 p3 p4 p5 : Int} {q0 : List Int} {q1 : Int} (h0 : bank_Bank_tell_5 K t0 t1 l p1 p3 p4 p5 = some (q0,q1)) : Fn Tryz.prog 191 [.p 0 0,.pf 0 (tcs t0).length 0,.int .i64 p1,.fn 194 [.p 1 0]] [(0,some (.foc (tcs t0) [.int .u32 1,.int .i32 0,.int .u32 0,.im (.slice (.int .i16)) l] (pst t1 p3 p4))),(1,some (.cells [.int .i64 p5]))] (.tup [.im (.slice (.int .i16)) q0,.int .i64 0]) [(0,some (.foc (tcs t0) [.int .u32 1,.int .i32 0,.int .u32 0,.im (.slice (.int .i16)) l] (pst t1 p3 q1))),(1,some (.cells [.int .i64 p5]))]:=bank_Bank_tell_5.ok h0
theorem bank_Bank_tell_5.fnb : fnb Tryz.prog 191 = true:=fnb_of Tryz.func191 rfl
theorem bank_Bank_tell_6.ok0 {K p0 : Nat} {p1 : Int} {p2 : List (Option (List Int))} {p3 p4 p5 : Int} {q0 : List Int} {q1 : List (Option (List Int))} {q2 q3 : Int} (h0 : bank_Bank_tell_6 K p0 p1 p2 p3 p4 p5 = some (q0,q1,q2,q3)) : Fn Tryz.prog 191 [.p 0 0,.p 0 p0,.int .i64 p1,.fn 194 [.p 1 0]] [(0,some (.ab (bkA p2 p3 p4))),(1,some (.cells [.int .i64 p5]))] (.tup [.im (.slice (.int .i16)) q0,.int .i64 0]) [(0,some (.ab (bkA q1 q2 q3))),(1,some (.cells [.int .i64 p5]))]:=by
 unfold bank_Bank_tell_6 at h0
 obtain ⟨⟨g1,g2,g3⟩,h0⟩:=gd_t h0
 split at h0
 ·rename_i hx
  obtain ⟨⟨q0',q1',q2',q3'⟩,hr,h0⟩:=bnd h0
  simp only [Option.some.injEq,Prod.mk.injEq] at h0
  obtain ⟨rfl,rfl,rfl,rfl⟩:=h0
  have hF:=tell_fn (x:=none) (x':=some q1') (bank_Bank_tell_4.ok0 hr)
  rw [tk hx,tcs_at g1 g2 g3] at hF
  exact hF
 ·rename_i l hx
  obtain ⟨⟨q0',q1'⟩,hr,h0⟩:=bnd h0
  simp only [Option.some.injEq,Prod.mk.injEq] at h0
  obtain ⟨rfl,rfl,rfl,rfl⟩:=h0
  have hF:=tell_fn (x:=some l) (x':=some l) (bank_Bank_tell_5.ok0 hr)
  rw [tk hx,tcs_at g1 g2 g3] at hF
  exact hF
 ·cases h0
theorem bank_Bank_tell_6.fnb : fnb Tryz.prog 191 = true:=fnb_of Tryz.func191 rfl
def bank_Bank_Turn.res (_p0 : Int) (_p1 : List (Option (List Int))) (_p2 _p3 : Int) : (List Int) × Int × (List (Option (List Int))) × Int × Int → MV
 | (q0,q1,_,_,_)=>.tup [.im (.slice (.int .i16)) q0,.int .i64 q1]
def bank_Bank_Turn.out (_p0 : Int) (_p1 : List (Option (List Int))) (_p2 _p3 : Int) : (List Int) × Int × (List (Option (List Int))) × Int × Int → List (Nat × Option MObj)
 | (_,_,q2,q3,q4)=>[(0,some (.ab (bkA q2 q3 q4)))]
theorem bank_Bank_Turn.ok {K : Nat} {p0 : Int} {p1 : List (Option (List Int))} {p2 p3 : Int} {r : (List Int) × Int × (List (Option (List Int))) × Int × Int} (h0 : bank_Bank_Turn K p0 p1 p2 p3 = some r) : Fn Tryz.prog 169 [.p 0 0,.int .i64 p0] [(0,some (.ab (bkA p1 p2 p3)))] (bank_Bank_Turn.res p0 p1 p2 p3 r) (bank_Bank_Turn.out p0 p1 p2 p3 r):=by
 refine Fn_of Tryz.func169 rfl (Nat.le_of_ble_eq_true rfl) fun Γ=>?_
 refine zr ?_
 refine zv 3 rfl ⟨tv,tv,tv,tv⟩ ?_
 refine ze ?_
 refine TC_seq ?_
 refine zr ?_
 refine zv 12 rfl ⟨tv,⟨tv,tv⟩,⟨tv,tv,tv⟩,tv,fun eg=>⟨tv,tv⟩,fun eg=>⟨fun e=>e,tv,tv⟩,⟨tv,fun e=>e,tv⟩,tv,fun eg=>⟨tv,tv⟩,fun eg=>⟨fun e=>e,tv,(by decide)⟩,fun eg=>⟨fun e=>e,tv,tv⟩,⟨tv,fun e=>e,tv⟩,tv⟩ ?_
 obtain ⟨z,hr,h0⟩:=bnd h0
 rcases z with ⟨⟩ | ⟨⟩
 ·refine TL_callB [(0,0)] (bank_Bank_may.ok0 hr) bank_Bank_may.fnb rfl ⟨tv,⟨tv,⟨tv,tv⟩⟩⟩ rfl ⟨.inr rfl,tv⟩ rfl ?_
  refine zv 1 rfl ⟨tv,tv⟩ ?_
  refine zn ?_
  refine zv 2 rfl ⟨tv,⟨tv,tv,tv⟩,tv⟩ ?_
  refine ze ?_
  refine TC_cond rfl (fun hb=>?_) (fun hb=>?_)
  ·refine zr ?_
   refine zv 3 rfl ⟨tv,tv,tv,tv⟩ ?_
   refine ze ?_
   refine TC_ret ?_
   refine tsr ?_
   refine TE_imn 4 (.int .i16) rfl ?_
   obtain rfl:=sinj h0
   exact TE_ret env rfl tv ⟨.inr rfl,tv⟩
  ·first | exact (ftf hb).elim | exact (tff hb).elim | exact absurd hb (by decide)
 ·refine TL_callB [(0,0)] (bank_Bank_may.ok1 hr) bank_Bank_may.fnb rfl ⟨tv,⟨tv,⟨tv,tv⟩⟩⟩ rfl ⟨.inr rfl,tv⟩ rfl ?_
  refine zv 1 rfl ⟨tv,tv⟩ ?_
  refine zn ?_
  refine zv 2 rfl ⟨tv,⟨tv,tv,tv⟩,tv⟩ ?_
  refine ze ?_
  refine TC_cond rfl (fun hb=>?_) (fun hb=>?_)
  ·first | exact (ftf hb).elim | exact (tff hb).elim | exact absurd hb (by decide)
  ·refine TC_skip ?_
   refine TE_go ?_
   refine TC_seq ?_
   refine TC_renw (A':=[(0,.p 0 0),(3,.p 1003 0),(4,.nils),(5,.int .i64 0)]) (L':=[(0,some (.ab (bkA _ _ _))),(1003,some (.cells [.int .i64 _]))]) [] ⟨rfl,rfl,rfl,rfl,tv⟩ ⟨rfl,rfl,tv⟩ rfl ?_
   refine zd [[],[],[],[2],[1],[4,1],[5,4,3,2,1],[],[],[8,7,6,5,4,3,2,1,0],[9,8,7,6,5,4,3,2,1,0],[9,8,7,6,5,4,3,2,1,0],[11,10,9,8,7,6,5,4,3,2,1,0],[12,11,10,9,8,7,6,5,4,3,2,1,0]] [[],[],[],[],[],[],[],[],[],[0,1003],[],[],[],[]] [[],[],[],[],[],[],[],[],[],[],[],[],[],[]] [[],[],[],[],[],[],[],[],[],[],[],[],[],[]] (by kernel_rfl) (by kernel_rfl) ?_
   refine zj 1 rfl rfl rfl tv ?_
   refine zj 2 rfl rfl rfl tv ?_
   refine zj 3 rfl rfl rfl ⟨tv,tv⟩ ?_
   refine zj 4 rfl rfl rfl ⟨tv,tv,(by decide)⟩ ?_
   refine zj 5 rfl rfl rfl tv ?_
   refine zj 6 rfl rfl rfl tv ?_
   obtain ⟨g,h0⟩:=gd_t h0
   refine zj 7 rfl rfl rfl ⟨tv,tv,g.1,g.2⟩ ?_
   refine zj 8 rfl rfl rfl ⟨tv,tv⟩ ?_
   refine zj 9 rfl rfl rfl ⟨tv,tv⟩ ?_
   obtain ⟨⟨r12,r13,r14,r15⟩,hr,h0⟩:=bnd h0
   refine AJR_call 10 rfl (Nat.le_of_ble_eq_true rfl) [(0,0),(1,1003)] rfl (bank_Bank_tell_6.ok0 hr) bank_Bank_tell_6.fnb rfl ⟨tv,⟨tv,⟨tv,⟨tv,⟨tv,tv⟩⟩⟩⟩⟩ rfl ⟨.inr rfl,.inr rfl,tv⟩ rfl ?_
   refine zj 11 rfl rfl rfl tv ?_
   refine zj 12 rfl rfl rfl tv ?_
   refine zj 13 rfl rfl rfl tv ?_
   refine zj 14 rfl rfl rfl tv ?_
   refine AJR_end rfl rfl rfl ?_
   refine zu ?_
   obtain rfl:=sinj h0
   exact TE_ret env rfl tv ⟨.inr rfl,tv⟩
theorem bank_Bank_Turn.ok0 {K : Nat} {p0 : Int} {p1 : List (Option (List Int))} {p2 p3 : Int} {q0 : List Int} {q1 : Int} {q2 : List (Option (List Int))} {q3 q4 : Int} (h0 : bank_Bank_Turn K p0 p1 p2 p3 = some (q0,q1,q2,q3,q4)) : Fn Tryz.prog 169 [.p 0 0,.int .i64 p0] [(0,some (.ab (bkA p1 p2 p3)))] (.tup [.im (.slice (.int .i16)) q0,.int .i64 q1]) [(0,some (.ab (bkA q2 q3 q4)))]:=bank_Bank_Turn.ok h0
theorem bank_Bank_Turn.fnb : fnb Tryz.prog 169 = true:=fnb_of Tryz.func169 rfl
def poly_tables.res (_p0 : Int) (_p1 : List (Option (List Int))) (_p2 _p3 : Int) : Int × (List Int) × (List Int) × Int × (List (Option (List Int))) × Int × Int → MV
 | (q0,q1,q2,q3,_,_,_)=>.tup [.agg [.int .i64 q0,.im (.slice (.int .i16)) q1,.im (.slice (.int .i16)) q2],.int .i64 q3]
def poly_tables.out (_p0 : Int) (_p1 : List (Option (List Int))) (_p2 _p3 : Int) : Int × (List Int) × (List Int) × Int × (List (Option (List Int))) × Int × Int → List (Nat × Option MObj)
 | (_,_,_,_,q4,q5,q6)=>[(0,some (.ab (bkA q4 q5 q6)))]
theorem poly_tables.ok {K : Nat} {p0 : Int} {p1 : List (Option (List Int))} {p2 p3 : Int} {r : Int × (List Int) × (List Int) × Int × (List (Option (List Int))) × Int × Int} (h0 : poly_tables K p0 p1 p2 p3 = some r) : Fn Tryz.prog 124 [.p 0 0,.int .i64 p0] [(0,some (.ab (bkA p1 p2 p3)))] (poly_tables.res p0 p1 p2 p3 r) (poly_tables.out p0 p1 p2 p3 r):=by
 refine Fn_of Tryz.func124 rfl (Nat.le_of_ble_eq_true rfl) fun Γ=>?_
 refine zr ?_
 refine zv 2 rfl ⟨tv,tv,tv⟩ ?_
 refine zn ?_
 refine zv 2 rfl ⟨tv,tv,tv⟩ ?_
 obtain ⟨⟨r11,r12,r13,r14,r15⟩,hr,h0⟩:=bnd h0
 refine TL_callB [(0,0)] (bank_Bank_Filter.ok0 hr) bank_Bank_Filter.fnb rfl ⟨tv,⟨tv,⟨tv,tv⟩⟩⟩ rfl ⟨.inr rfl,tv⟩ rfl ?_
 refine zv 5 rfl ⟨tv,tv,tv,tv,tv,tv⟩ ?_
 refine ze ?_
 refine TC_seq ?_
 refine zr ?_
 refine zv 2 rfl ⟨tv,⟨tv,tv,tv⟩,tv⟩ ?_
 refine ze ?_
 refine TC_cond rfl (fun hb=>?_) (fun hb=>?_)
 ·replace h0:=bif_t h0 hb
  refine zr ?_
  refine zv 4 rfl ⟨tv,tv,⟨tv,tv⟩,tv,tv⟩ ?_
  refine ze ?_
  refine TC_ret ?_
  refine tsr ?_
  refine TE_imnC 1004 1 (.int .i16) rfl rfl ?_
  refine TE_imnC 1004 2 (.int .i16) rfl rfl ?_
  obtain rfl:=sinj h0
  exact TE_ret env rfl ⟨tv,tv⟩ ⟨.inr rfl,tv⟩
 ·replace h0:=bif_f h0 hb
  refine TC_skip ?_
  refine zg ?_
  refine zv 3 rfl ⟨tv,tv,⟨tv,tv,tv⟩,tv⟩ ?_
  obtain ⟨⟨r17,r18,r19,r20,r21⟩,hr,h0⟩:=bnd h0
  refine TL_callB [(0,0)] (bank_Bank_Turn.ok0 hr) bank_Bank_Turn.fnb rfl ⟨tv,⟨tv,⟨tv,tv⟩⟩⟩ rfl ⟨.inr rfl,tv⟩ rfl ?_
  refine zv 5 rfl ⟨tv,tv,tv,tv,tv,tv⟩ ?_
  refine zn ?_
  refine zv 7 rfl ⟨tv,tv,tv,⟨tv,tv,tv,tv⟩,tv,⟨tv,tv⟩,tv,tv⟩ ?_
  refine ze ?_
  refine TC_ret ?_
  obtain rfl:=sinj h0
  exact TE_ret env rfl ⟨tv,tv⟩ ⟨.inr rfl,tv⟩
theorem poly_tables.ok0 {K : Nat} {p0 : Int} {p1 : List (Option (List Int))} {p2 p3 q0 : Int} {q1 q2 : List Int} {q3 : Int} {q4 : List (Option (List Int))} {q5 q6 : Int} (h0 : poly_tables K p0 p1 p2 p3 = some (q0,q1,q2,q3,q4,q5,q6)) : Fn Tryz.prog 124 [.p 0 0,.int .i64 p0] [(0,some (.ab (bkA p1 p2 p3)))] (.tup [.agg [.int .i64 q0,.im (.slice (.int .i16)) q1,.im (.slice (.int .i16)) q2],.int .i64 q3]) [(0,some (.ab (bkA q4 q5 q6)))]:=poly_tables.ok h0
theorem poly_tables.fnb : fnb Tryz.prog 124 = true:=fnb_of Tryz.func124 rfl
def poly_NewSplitter.res (_p0 : Int) (_p1 : List (Option (List Int))) (_p2 _p3 : Int) : (Int × (List (Option (List Int))) × Int × Int) ⊕ ((List (Option (List Int))) × Int × Int × Int × (List Int) × (List Int) × (List Int)) → MV
 | .inl (q0,_,_,_)=>.tup [.nilp,.int .i64 q0]
 | .inr (_,_,_,_,_,_,_)=>.tup [.p 1000 0,.int .i64 0]
def poly_NewSplitter.out (_p0 : Int) (_p1 : List (Option (List Int))) (_p2 _p3 : Int) : (Int × (List (Option (List Int))) × Int × Int) ⊕ ((List (Option (List Int))) × Int × Int × Int × (List Int) × (List Int) × (List Int)) → List (Nat × Option MObj)
 | .inl (_,q1,q2,q3)=>[(0,some (.ab (bkA q1 q2 q3)))]
 | .inr (q0,q1,q2,q3,q4,q5,q6)=>[(0,some (.ab (bkA q0 q1 q2))),(1000,some (.cells [.int .i64 q3,.im (.slice (.int .i16)) q4,.im (.slice (.int .i16)) q5,.sl 1001])),(1001,some (.rows (.int .i64) q6))]
theorem poly_NewSplitter.ok {K : Nat} {p0 : Int} {p1 : List (Option (List Int))} {p2 p3 : Int} {r : (Int × (List (Option (List Int))) × Int × Int) ⊕ ((List (Option (List Int))) × Int × Int × Int × (List Int) × (List Int) × (List Int))} (h0 : poly_NewSplitter K p0 p1 p2 p3 = some r) : Fn Tryz.prog 68 [.p 0 0,.int .i64 p0] [(0,some (.ab (bkA p1 p2 p3)))] (poly_NewSplitter.res p0 p1 p2 p3 r) (poly_NewSplitter.out p0 p1 p2 p3 r):=by
 refine Fn_of Tryz.func68 rfl (Nat.le_of_ble_eq_true rfl) fun Γ=>?_
 refine zr ?_
 refine zv 2 rfl ⟨tv,tv,tv⟩ ?_
 refine zn ?_
 refine zv 2 rfl ⟨tv,tv,tv⟩ ?_
 obtain ⟨⟨r8,r9,r10,r11,r12,r13,r14⟩,hr,h0⟩:=bnd h0
 refine TL_callB [(0,0)] (poly_tables.ok0 hr) poly_tables.fnb rfl ⟨tv,⟨tv,⟨tv,tv⟩⟩⟩ rfl ⟨.inr rfl,tv⟩ rfl ?_
 refine zv 6 rfl ⟨tv,tv,tv,tv,⟨tv,tv⟩,tv,tv⟩ ?_
 refine ze ?_
 refine TC_seq ?_
 refine zr ?_
 refine zv 2 rfl ⟨tv,⟨tv,tv,tv⟩,tv⟩ ?_
 refine ze ?_
 refine TC_cond rfl (fun hb=>?_) (fun hb=>?_)
 ·replace h0:=bif_t h0 hb
  refine zr ?_
  refine zv 3 rfl ⟨tv,tv,tv,tv⟩ ?_
  refine ze ?_
  refine TC_ret ?_
  refine tsr ?_
  obtain rfl:=sinj h0
  exact TE_ret env rfl tv ⟨.inr rfl,tv⟩
 ·replace h0:=bif_f h0 hb
  refine TC_skip ?_
  refine TE_go ?_
  refine TC_seq ?_
  refine TC_renw (A':=[(1,.int .i64 _),(4,.nilp),(5,.int .i64 0),(6,.p 1006 0)]) (L':=[(0,some (.ab (bkA _ _ _))),(1006,some (.cells [.int .i64 _,.im (.slice (.int .i16)) _,.im (.slice (.int .i16)) _]))]) [] ⟨rfl,rfl,rfl,rfl,tv⟩ ⟨rfl,rfl,tv⟩ rfl ?_
  refine zd [[],[],[1],[2,1],[3,2,1,0],[4,3,2,1,0],[5,4,3,2,1,0],[6,5,4,3,2,1,0]] [[],[],[],[1020],[],[1022],[],[]] [[],[],[],[1020],[],[1022],[],[]] [[1020],[],[],[],[],[],[],[]] (by kernel_rfl) (by kernel_rfl) ?_
  refine zj 1 rfl rfl rfl ⟨tv,tv⟩ ?_
  refine zj 2 rfl rfl rfl tv ?_
  refine zj 3 rfl rfl rfl ⟨tv,tv,tv⟩ ?_
  obtain ⟨g,h0⟩:=gd_t h0
  refine zj 4 rfl rfl rfl ⟨tv,tv,g.1,g.2.1,g.2.2⟩ ?_
  refine zj 5 rfl rfl rfl ⟨tv,tv,tv⟩ ?_
  refine zj 6 rfl rfl rfl tv ?_
  refine zj 7 rfl rfl rfl tv ?_
  refine zj 8 rfl rfl rfl tv ?_
  refine AJR_end rfl rfl rfl ?_
  refine zu ?_
  obtain rfl:=sinj h0
  refine TE_renw (A':=[(4,.p 1000 0),(5,.int .i64 0)]) (L':=[(0,some (.ab (bkA _ _ _))),(1000,some (.cells [.int .i64 _,.im (.slice (.int .i16)) _,.im (.slice (.int .i16)) _,.sl 1001])),(1001,some (.rows (.int .i64) _))]) [(1000,1022),(1001,1020)] ⟨rfl,rfl,tv⟩ ⟨rfl,rfl,rfl,tv⟩ rfl ?_
  exact TE_ret env rfl tv ⟨.inr rfl,.inr rfl,.inr rfl,tv⟩
theorem poly_NewSplitter.ok0 {K : Nat} {p0 : Int} {p1 : List (Option (List Int))} {p2 p3 q0 : Int} {q1 : List (Option (List Int))} {q2 q3 : Int} (h0 : poly_NewSplitter K p0 p1 p2 p3 = some (.inl (q0,q1,q2,q3))) : Fn Tryz.prog 68 [.p 0 0,.int .i64 p0] [(0,some (.ab (bkA p1 p2 p3)))] (.tup [.nilp,.int .i64 q0]) [(0,some (.ab (bkA q1 q2 q3)))]:=poly_NewSplitter.ok h0
theorem poly_NewSplitter.ok1 {K : Nat} {p0 : Int} {p1 : List (Option (List Int))} {p2 p3 : Int} {q0 : List (Option (List Int))} {q1 q2 q3 : Int} {q4 q5 q6 : List Int} (h0 : poly_NewSplitter K p0 p1 p2 p3 = some (.inr (q0,q1,q2,q3,q4,q5,q6))) : Fn Tryz.prog 68 [.p 0 0,.int .i64 p0] [(0,some (.ab (bkA p1 p2 p3)))] (.tup [.p 1000 0,.int .i64 0]) [(0,some (.ab (bkA q0 q1 q2))),(1000,some (.cells [.int .i64 q3,.im (.slice (.int .i16)) q4,.im (.slice (.int .i16)) q5,.sl 1001])),(1001,some (.rows (.int .i64) q6))]:=poly_NewSplitter.ok h0
theorem poly_NewSplitter.fnb : fnb Tryz.prog 68 = true:=fnb_of Tryz.func68 rfl
def subband_NewEncoder.res (_p0 _p1 _p2 _p3 _p4 _p5 _p6 _p7 _p8 _p9 : Int) (_p10 : List (Option (List Int))) (_p11 _p12 : Int) : (Int) ⊕ ((List (Option (List Int))) × Int × Int × Int × (List Int) × (List Int) × (List Int)) ⊕ ((List (Option (List Int))) × Int × Int × Int × (List Int) × (List Int) × Int × (List Int) × (List Int) × (List Int) × (List Int)) → MV
 | .inl q0=>.tup [.nilp,.int .i64 q0]
 | .inr (.inl (_,_,_,_,_,_,_))=>.tup [.p 1000 0,.int .i64 0]
 | .inr (.inr (_,_,_,_,_,_,_,_,_,_,_))=>.tup [.p 1000 0,.int .i64 0]
def subband_NewEncoder.out (p0 p1 _p2 p3 p4 p5 p6 p7 p8 p9 : Int) (p10 : List (Option (List Int))) (p11 p12 : Int) : (Int) ⊕ ((List (Option (List Int))) × Int × Int × Int × (List Int) × (List Int) × (List Int)) ⊕ ((List (Option (List Int))) × Int × Int × Int × (List Int) × (List Int) × Int × (List Int) × (List Int) × (List Int) × (List Int)) → List (Nat × Option MObj)
 | .inl _=>[(0,some (.ab (bkA p10 p11 p12)))]
 | .inr (.inl (q0,q1,q2,q3,q4,q5,q6))=>[(0,some (.ab (bkA q0 q1 q2))),(1000,some (.cells [.int .i64 p0,.int .i64 p1,.int .i64 1,.int .i64 p3,.int .i64 p4,.int .i64 p5,.int .i64 p6,.int .i64 p7,.int .i64 p8,.int .i64 p9,.sl 1001])),(1001,some (.hrow [.p 1002 0])),(1002,some (.cells [.int .i64 q3,.im (.slice (.int .i16)) q4,.im (.slice (.int .i16)) q5,.sl 1003])),(1003,some (.rows (.int .i64) q6))]
 | .inr (.inr (q0,q1,q2,q3,q4,q5,q6,q7,q8,q9,q10))=>[(0,some (.ab (bkA q0 q1 q2))),(1000,some (.cells [.int .i64 p0,.int .i64 p1,.int .i64 2,.int .i64 p3,.int .i64 p4,.int .i64 p5,.int .i64 p6,.int .i64 p7,.int .i64 p8,.int .i64 p9,.sl 1001])),(1001,some (.hrow [.p 1002 0,.p 1003 0])),(1002,some (.cells [.int .i64 q3,.im (.slice (.int .i16)) q4,.im (.slice (.int .i16)) q5,.sl 1004])),(1003,some (.cells [.int .i64 q6,.im (.slice (.int .i16)) q7,.im (.slice (.int .i16)) q8,.sl 1005])),(1004,some (.rows (.int .i64) q9)),(1005,some (.rows (.int .i64) q10))]
theorem subband_NewEncoder.ok {K : Nat} {p0 p1 p2 p3 p4 p5 p6 p7 p8 p9 : Int} {p10 : List (Option (List Int))} {p11 p12 : Int} {r : (Int) ⊕ ((List (Option (List Int))) × Int × Int × Int × (List Int) × (List Int) × (List Int)) ⊕ ((List (Option (List Int))) × Int × Int × Int × (List Int) × (List Int) × Int × (List Int) × (List Int) × (List Int) × (List Int))} (h0 : subband_NewEncoder K p0 p1 p2 p3 p4 p5 p6 p7 p8 p9 p10 p11 p12 = some r) : Fn Tryz.prog 20 [.p 0 0,.agg [.int .i64 p0,.int .i64 p1,.int .i64 p2,.int .i64 p3,.int .i64 p4,.int .i64 p5,.int .i64 p6,.int .i64 p7,.int .i64 p8,.int .i64 p9]] [(0,some (.ab (bkA p10 p11 p12)))] (subband_NewEncoder.res p0 p1 p2 p3 p4 p5 p6 p7 p8 p9 p10 p11 p12 r) (subband_NewEncoder.out p0 p1 p2 p3 p4 p5 p6 p7 p8 p9 p10 p11 p12 r):=by
 refine Fn_of Tryz.func20 rfl (Nat.le_of_ble_eq_true rfl) fun Γ=>?_
 refine zr ?_
 refine zv 3 rfl ⟨tv,tv,tv,tv⟩ ?_
 refine ze ?_
 refine TC_seq ?_
 refine zr ?_
 refine zv 1 rfl ⟨⟨tv,tv⟩,tv⟩ ?_
 obtain ⟨r204,hr,h0⟩:=bnd h0
 refine TL_callB [] (subband_may.ok0 hr) subband_may.fnb rfl ⟨tv,⟨tv,tv⟩⟩ rfl tv rfl ?_
 refine zv 1 rfl ⟨tv,tv⟩ ?_
 refine zn ?_
 refine zv 2 rfl ⟨tv,⟨tv,tv,tv⟩,tv⟩ ?_
 refine ze ?_
 refine TC_cond rfl (fun hb=>?_) (fun hb=>?_)
 ·replace h0:=bif_t h0 hb
  refine zr ?_
  refine zv 3 rfl ⟨tv,tv,tv,tv⟩ ?_
  refine ze ?_
  refine TC_ret ?_
  refine tsr ?_
  obtain rfl:=sinj h0
  exact TE_ret env rfl tv ⟨.inr rfl,tv⟩
 ·replace h0:=bif_f h0 hb
  refine TC_skip ?_
  refine zg ?_
  refine zv 4 rfl ⟨⟨tv,tv⟩,⟨tv,tv⟩,tv,tv,tv⟩ ?_
  refine ze ?_
  refine TC_seq ?_
  refine zr ?_
  refine zv 3 rfl ⟨tv,⟨tv,tv⟩,tv,tv⟩ ?_
  refine ze ?_
  refine TC_blk ?_
  refine nums h0 (fun hx h0=>?_) (fun h0=>?_)
  ·refine TC_num 19 1 hx rfl ?_
   refine TC_numC 1003 2 1 hx rfl rfl ?_
   refine TC_numC 1017 2 1 hx rfl rfl ?_
   refine TC_loopU ?_
   refine TE_lb ?_
   refine zr ?_
   refine zv 1 rfl ⟨⟨tv,tv,tv⟩,tv⟩ ?_
   refine ze ?_
   refine TC_seq ?_
   refine TC_cond rfl (fun hb=>?_) (fun hb=>?_)
   ·refine TC_skip ?_
    refine TE_go ?_
    refine TC_seq ?_
    refine TC_blk ?_
    refine zr ?_
    refine zv 3 rfl ⟨tv,tv,⟨tv,tv⟩,tv⟩ ?_
    obtain ⟨z,hr,h0⟩:=bnd h0
    rcases z with ⟨r352,r353,r354,r355⟩ | ⟨r356,r357,r358,r359,r360,r361,r362⟩
    ·exact (nsome h0).elim
    ·refine TL_callB [(0,0),(1000,500260),(1001,500261)] (poly_NewSplitter.ok1 hr) poly_NewSplitter.fnb rfl ⟨tv,⟨tv,⟨tv,tv⟩⟩⟩ rfl ⟨.inr rfl,tv⟩ rfl ?_
     refine zv 5 rfl ⟨tv,tv,tv,tv,tv,tv⟩ ?_
     refine ze ?_
     refine TC_seq ?_
     refine zr ?_
     refine zv 2 rfl ⟨tv,⟨tv,tv,tv⟩,tv⟩ ?_
     refine ze ?_
     refine TC_cond rfl (fun hb=>?_) (fun hb=>?_)
     ·first | exact (ftf hb).elim | exact (tff hb).elim | exact absurd hb (by decide)
     ·refine TC_skip ?_
      refine zt ?_
      refine zv 11 rfl ⟨tv,tv,tv,tv,⟨tv,tv⟩,tv,⟨tv,tv⟩,⟨tv,tv,tv⟩,tv,tv,⟨tv,tv⟩,tv⟩ ?_
      refine TL_end ?_
      refine tbn ?_
      refine zt ?_
      refine zv 2 rfl ⟨⟨tv,tv,tv⟩,tv,tv⟩ ?_
      refine zm ?_
      refine TE_renw (A':=[(0,.p 0 0),(3,.p 1016001 0),(7,.p 1016002 0),(19,.int .i64 1),(20,.int .i64 1)]) (L':=[(0,some (.ab (bkA _ _ _))),(1016001,some (.cells [.int .i64 _,.int .i64 _,.int .i64 1,.int .i64 _,.int .i64 _,.int .i64 _,.int .i64 _,.int .i64 _,.int .i64 _,.int .i64 _])),(1016002,some (.cells [.int .i64 _,.int .i64 _,.int .i64 1,.int .i64 _,.int .i64 _,.int .i64 _,.int .i64 _,.int .i64 _,.int .i64 _,.int .i64 _,.sl 1016003])),(1016003,some (.hrow [.p 1016004 0])),(1016004,some (.cells [.int .i64 _,.im (.slice (.int .i16)) _,.im (.slice (.int .i16)) _,.sl 1016005])),(1016005,some (.rows (.int .i64) _))]) [(1016001,1003),(1016002,1017),(1016003,1039),(1016004,500260),(1016005,500261)] ⟨rfl,rfl,rfl,rfl,rfl,tv⟩ ⟨rfl,rfl,rfl,rfl,rfl,rfl,tv⟩ rfl ?_
      refine TE_lb ?_
      refine zr ?_
      refine zv 1 rfl ⟨⟨tv,tv,tv⟩,tv⟩ ?_
      refine ze ?_
      refine TC_seq ?_
      refine TC_cond rfl (fun hb=>?_) (fun hb=>?_)
      ·first | exact (ftf hb).elim | exact (tff hb).elim | exact absurd hb (by decide)
      ·refine TC_exit ?_
       refine tsx ?_
       refine tsx ?_
       refine tbe ?_
       refine zg ?_
       refine zv 3 rfl ⟨tv,tv,tv,tv⟩ ?_
       refine ze ?_
       refine TC_ret ?_
       obtain rfl:=sinj h0
       refine TE_renw (A':=[(4,.p 1000 0),(5,.int .i64 0)]) (L':=[(0,some (.ab (bkA _ _ _))),(1000,some (.cells [.int .i64 _,.int .i64 _,.int .i64 1,.int .i64 _,.int .i64 _,.int .i64 _,.int .i64 _,.int .i64 _,.int .i64 _,.int .i64 _,.sl 1001])),(1001,some (.hrow [.p 1002 0])),(1002,some (.cells [.int .i64 _,.im (.slice (.int .i16)) _,.im (.slice (.int .i16)) _,.sl 1003])),(1003,some (.rows (.int .i64) _))]) [(1000,1016002),(1001,1016003),(1002,1016004),(1003,1016005)] ⟨rfl,rfl,tv⟩ ⟨rfl,rfl,rfl,rfl,rfl,tv⟩ rfl ?_
       exact TE_ret env rfl tv ⟨.inr rfl,.inr rfl,.inr rfl,.inr rfl,.inr rfl,tv⟩
   ·first | exact (ftf hb).elim | exact (tff hb).elim | exact absurd hb (by decide)
  ·refine nums h0 (fun hx h0=>?_) (fun h0=>?_)
   ·refine TC_num 19 2 hx rfl ?_
    refine TC_numC 1003 2 2 hx rfl rfl ?_
    refine TC_numC 1017 2 2 hx rfl rfl ?_
    refine TC_loopU ?_
    refine TE_lb ?_
    refine zr ?_
    refine zv 1 rfl ⟨⟨tv,tv,tv⟩,tv⟩ ?_
    refine ze ?_
    refine TC_seq ?_
    refine TC_cond rfl (fun hb=>?_) (fun hb=>?_)
    ·refine TC_skip ?_
     refine TE_go ?_
     refine TC_seq ?_
     refine TC_blk ?_
     refine zr ?_
     refine zv 3 rfl ⟨tv,tv,⟨tv,tv⟩,tv⟩ ?_
     obtain ⟨z,hr,h0⟩:=bnd h0
     rcases z with ⟨r374,r375,r376,r377⟩ | ⟨r378,r379,r380,r381,r382,r383,r384⟩
     ·exact (nsome h0).elim
     ·refine TL_callB [(0,0),(1000,500260),(1001,500261)] (poly_NewSplitter.ok1 hr) poly_NewSplitter.fnb rfl ⟨tv,⟨tv,⟨tv,tv⟩⟩⟩ rfl ⟨.inr rfl,tv⟩ rfl ?_
      refine zv 5 rfl ⟨tv,tv,tv,tv,tv,tv⟩ ?_
      refine ze ?_
      refine TC_seq ?_
      refine zr ?_
      refine zv 2 rfl ⟨tv,⟨tv,tv,tv⟩,tv⟩ ?_
      refine ze ?_
      refine TC_cond rfl (fun hb=>?_) (fun hb=>?_)
      ·first | exact (ftf hb).elim | exact (tff hb).elim | exact absurd hb (by decide)
      ·refine TC_skip ?_
       refine zt ?_
       refine zv 11 rfl ⟨tv,tv,tv,tv,⟨tv,tv⟩,tv,⟨tv,tv⟩,⟨tv,tv,tv⟩,tv,tv,⟨tv,tv⟩,tv⟩ ?_
       refine TL_end ?_
       refine tbn ?_
       refine zt ?_
       refine zv 2 rfl ⟨⟨tv,tv,tv⟩,tv,tv⟩ ?_
       refine zm ?_
       refine TE_renw (A':=[(0,.p 0 0),(3,.p 1017001 0),(7,.p 1017002 0),(19,.int .i64 2),(20,.int .i64 1)]) (L':=[(0,some (.ab (bkA _ _ _))),(1017001,some (.cells [.int .i64 _,.int .i64 _,.int .i64 2,.int .i64 _,.int .i64 _,.int .i64 _,.int .i64 _,.int .i64 _,.int .i64 _,.int .i64 _])),(1017002,some (.cells [.int .i64 _,.int .i64 _,.int .i64 2,.int .i64 _,.int .i64 _,.int .i64 _,.int .i64 _,.int .i64 _,.int .i64 _,.int .i64 _,.sl 1017003])),(1017003,some (.hrow [.p 1017004 0])),(1017004,some (.cells [.int .i64 _,.im (.slice (.int .i16)) _,.im (.slice (.int .i16)) _,.sl 1017005])),(1017005,some (.rows (.int .i64) _))]) [(1017001,1003),(1017002,1017),(1017003,1039),(1017004,500260),(1017005,500261)] ⟨rfl,rfl,rfl,rfl,rfl,tv⟩ ⟨rfl,rfl,rfl,rfl,rfl,rfl,tv⟩ rfl ?_
       refine TE_lb ?_
       refine zr ?_
       refine zv 1 rfl ⟨⟨tv,tv,tv⟩,tv⟩ ?_
       refine ze ?_
       refine TC_seq ?_
       refine TC_cond rfl (fun hb=>?_) (fun hb=>?_)
       ·refine TC_skip ?_
        refine TE_go ?_
        refine TC_seq ?_
        refine TC_blk ?_
        refine zr ?_
        refine zv 3 rfl ⟨tv,tv,⟨tv,tv⟩,tv⟩ ?_
        obtain ⟨z,hr,h0⟩:=bnd h0
        rcases z with ⟨r396,r397,r398,r399⟩ | ⟨r400,r401,r402,r403,r404,r405,r406⟩
        ·exact (nsome h0).elim
        ·refine TL_callB [(0,0),(1000,500260),(1001,500261)] (poly_NewSplitter.ok1 hr) poly_NewSplitter.fnb rfl ⟨tv,⟨tv,⟨tv,tv⟩⟩⟩ rfl ⟨.inr rfl,tv⟩ rfl ?_
         refine zv 5 rfl ⟨tv,tv,tv,tv,tv,tv⟩ ?_
         refine ze ?_
         refine TC_seq ?_
         refine zr ?_
         refine zv 2 rfl ⟨tv,⟨tv,tv,tv⟩,tv⟩ ?_
         refine ze ?_
         refine TC_cond rfl (fun hb=>?_) (fun hb=>?_)
         ·first | exact (ftf hb).elim | exact (tff hb).elim | exact absurd hb (by decide)
         ·refine TC_skip ?_
          refine zt ?_
          refine zv 11 rfl ⟨tv,tv,tv,tv,⟨tv,tv⟩,tv,⟨tv,tv⟩,⟨tv,tv,tv⟩,tv,tv,⟨tv,tv⟩,tv⟩ ?_
          refine TL_end ?_
          refine tbn ?_
          refine zt ?_
          refine zv 2 rfl ⟨⟨tv,tv,tv⟩,tv,tv⟩ ?_
          refine zm ?_
          refine TE_renw (A':=[(0,.p 0 0),(3,.p 1018001 0),(7,.p 1018002 0),(19,.int .i64 2),(20,.int .i64 2)]) (L':=[(0,some (.ab (bkA _ _ _))),(1018001,some (.cells [.int .i64 _,.int .i64 _,.int .i64 2,.int .i64 _,.int .i64 _,.int .i64 _,.int .i64 _,.int .i64 _,.int .i64 _,.int .i64 _])),(1018002,some (.cells [.int .i64 _,.int .i64 _,.int .i64 2,.int .i64 _,.int .i64 _,.int .i64 _,.int .i64 _,.int .i64 _,.int .i64 _,.int .i64 _,.sl 1018003])),(1018003,some (.hrow [.p 1018004 0,.p 1018005 0])),(1018004,some (.cells [.int .i64 _,.im (.slice (.int .i16)) _,.im (.slice (.int .i16)) _,.sl 1018006])),(1018005,some (.cells [.int .i64 _,.im (.slice (.int .i16)) _,.im (.slice (.int .i16)) _,.sl 1018007])),(1018006,some (.rows (.int .i64) _)),(1018007,some (.rows (.int .i64) _))]) [(1018001,1017001),(1018002,1017002),(1018003,1039),(1018004,1017004),(1018005,500260),(1018006,1017005),(1018007,500261)] ⟨rfl,rfl,rfl,rfl,rfl,tv⟩ ⟨rfl,rfl,rfl,rfl,rfl,rfl,rfl,rfl,tv⟩ rfl ?_
          refine TE_lb ?_
          refine zr ?_
          refine zv 1 rfl ⟨⟨tv,tv,tv⟩,tv⟩ ?_
          refine ze ?_
          refine TC_seq ?_
          refine TC_cond rfl (fun hb=>?_) (fun hb=>?_)
          ·first | exact (ftf hb).elim | exact (tff hb).elim | exact absurd hb (by decide)
          ·refine TC_exit ?_
           refine tsx ?_
           refine tsx ?_
           refine tbe ?_
           refine zg ?_
           refine zv 3 rfl ⟨tv,tv,tv,tv⟩ ?_
           refine ze ?_
           refine TC_ret ?_
           obtain rfl:=sinj h0
           refine TE_renw (A':=[(4,.p 1000 0),(5,.int .i64 0)]) (L':=[(0,some (.ab (bkA _ _ _))),(1000,some (.cells [.int .i64 _,.int .i64 _,.int .i64 2,.int .i64 _,.int .i64 _,.int .i64 _,.int .i64 _,.int .i64 _,.int .i64 _,.int .i64 _,.sl 1001])),(1001,some (.hrow [.p 1002 0,.p 1003 0])),(1002,some (.cells [.int .i64 _,.im (.slice (.int .i16)) _,.im (.slice (.int .i16)) _,.sl 1004])),(1003,some (.cells [.int .i64 _,.im (.slice (.int .i16)) _,.im (.slice (.int .i16)) _,.sl 1005])),(1004,some (.rows (.int .i64) _)),(1005,some (.rows (.int .i64) _))]) [(1000,1018002),(1001,1018003),(1002,1018004),(1003,1018005),(1004,1018006),(1005,1018007)] ⟨rfl,rfl,tv⟩ ⟨rfl,rfl,rfl,rfl,rfl,rfl,rfl,tv⟩ rfl ?_
           exact TE_ret env rfl tv ⟨.inr rfl,.inr rfl,.inr rfl,.inr rfl,.inr rfl,.inr rfl,.inr rfl,tv⟩
       ·first | exact (ftf hb).elim | exact (tff hb).elim | exact absurd hb (by decide)
    ·first | exact (ftf hb).elim | exact (tff hb).elim | exact absurd hb (by decide)
   ·exact (nsome h0).elim
theorem subband_NewEncoder.ok0 {K : Nat} {p0 p1 p2 p3 p4 p5 p6 p7 p8 p9 : Int} {p10 : List (Option (List Int))} {p11 p12 q0 : Int} (h0 : subband_NewEncoder K p0 p1 p2 p3 p4 p5 p6 p7 p8 p9 p10 p11 p12 = some (.inl q0)) : Fn Tryz.prog 20 [.p 0 0,.agg [.int .i64 p0,.int .i64 p1,.int .i64 p2,.int .i64 p3,.int .i64 p4,.int .i64 p5,.int .i64 p6,.int .i64 p7,.int .i64 p8,.int .i64 p9]] [(0,some (.ab (bkA p10 p11 p12)))] (.tup [.nilp,.int .i64 q0]) [(0,some (.ab (bkA p10 p11 p12)))]:=subband_NewEncoder.ok h0
theorem subband_NewEncoder.ok1 {K : Nat} {p0 p1 p2 p3 p4 p5 p6 p7 p8 p9 : Int} {p10 : List (Option (List Int))} {p11 p12 : Int} {q0 : List (Option (List Int))} {q1 q2 q3 : Int} {q4 q5 q6 : List Int} (h0 : subband_NewEncoder K p0 p1 p2 p3 p4 p5 p6 p7 p8 p9 p10 p11 p12 = some (.inr (.inl (q0,q1,q2,q3,q4,q5,q6)))) : Fn Tryz.prog 20 [.p 0 0,.agg [.int .i64 p0,.int .i64 p1,.int .i64 p2,.int .i64 p3,.int .i64 p4,.int .i64 p5,.int .i64 p6,.int .i64 p7,.int .i64 p8,.int .i64 p9]] [(0,some (.ab (bkA p10 p11 p12)))] (.tup [.p 1000 0,.int .i64 0]) [(0,some (.ab (bkA q0 q1 q2))),(1000,some (.cells [.int .i64 p0,.int .i64 p1,.int .i64 1,.int .i64 p3,.int .i64 p4,.int .i64 p5,.int .i64 p6,.int .i64 p7,.int .i64 p8,.int .i64 p9,.sl 1001])),(1001,some (.hrow [.p 1002 0])),(1002,some (.cells [.int .i64 q3,.im (.slice (.int .i16)) q4,.im (.slice (.int .i16)) q5,.sl 1003])),(1003,some (.rows (.int .i64) q6))]:=subband_NewEncoder.ok h0
theorem subband_NewEncoder.ok2 {K : Nat} {p0 p1 p2 p3 p4 p5 p6 p7 p8 p9 : Int} {p10 : List (Option (List Int))} {p11 p12 : Int} {q0 : List (Option (List Int))} {q1 q2 q3 : Int} {q4 q5 : List Int} {q6 : Int} {q7 q8 q9 q10 : List Int} (h0 : subband_NewEncoder K p0 p1 p2 p3 p4 p5 p6 p7 p8 p9 p10 p11 p12 = some (.inr (.inr (q0,q1,q2,q3,q4,q5,q6,q7,q8,q9,q10)))) : Fn Tryz.prog 20 [.p 0 0,.agg [.int .i64 p0,.int .i64 p1,.int .i64 p2,.int .i64 p3,.int .i64 p4,.int .i64 p5,.int .i64 p6,.int .i64 p7,.int .i64 p8,.int .i64 p9]] [(0,some (.ab (bkA p10 p11 p12)))] (.tup [.p 1000 0,.int .i64 0]) [(0,some (.ab (bkA q0 q1 q2))),(1000,some (.cells [.int .i64 p0,.int .i64 p1,.int .i64 2,.int .i64 p3,.int .i64 p4,.int .i64 p5,.int .i64 p6,.int .i64 p7,.int .i64 p8,.int .i64 p9,.sl 1001])),(1001,some (.hrow [.p 1002 0,.p 1003 0])),(1002,some (.cells [.int .i64 q3,.im (.slice (.int .i16)) q4,.im (.slice (.int .i16)) q5,.sl 1004])),(1003,some (.cells [.int .i64 q6,.im (.slice (.int .i16)) q7,.im (.slice (.int .i16)) q8,.sl 1005])),(1004,some (.rows (.int .i64) q9)),(1005,some (.rows (.int .i64) q10))]:=subband_NewEncoder.ok h0
theorem subband_NewEncoder.fnb : fnb Tryz.prog 20 = true:=fnb_of Tryz.func20 rfl
def subband_Encoder_Feed.res (_p0 : List Int) : (List Int) → MV
 | q0=>.tup [.im (.slice (.int .u8)) q0,.int .i64 3]
def subband_Encoder_Feed.out (_p0 : List Int) : (List Int) → List (Nat × Option MObj)
 | _=>[]
theorem subband_Encoder_Feed.ok {K : Nat} {p0 : List Int} {r : (List Int)} (h0 : subband_Encoder_Feed K p0 = some r) : Fn Tryz.prog 23 [.nilp,.im (.slice (.int .i16)) p0] [] (subband_Encoder_Feed.res p0 r) (subband_Encoder_Feed.out p0 r):=by
 refine Fn_of Tryz.func23 rfl (Nat.le_of_ble_eq_true rfl) fun Γ=>?_
 refine zr ?_
 refine zv 2 rfl ⟨tv,tv,tv⟩ ?_
 refine ze ?_
 refine TC_seq ?_
 refine TC_blk ?_
 refine zr ?_
 refine zv 3 rfl ⟨tv,⟨tv,tv,tv⟩,tv,tv⟩ ?_
 refine ze ?_
 refine TC_cond rfl (fun hb=>?_) (fun hb=>?_)
 ·refine zr ?_
  refine zv 2 rfl ⟨tv,tv,tv⟩ ?_
  refine ze ?_
  refine TC_ret ?_
  refine tbr ?_
  refine tsr ?_
  refine TE_imn 4 (.int .u8) rfl ?_
  obtain rfl:=sinj h0
  exact TE_ret env rfl tv tv
 ·first | exact (ftf hb).elim | exact (tff hb).elim | exact absurd hb (by decide)
theorem subband_Encoder_Feed.ok0 {K : Nat} {p0 q0 : List Int} (h0 : subband_Encoder_Feed K p0 = some q0) : Fn Tryz.prog 23 [.nilp,.im (.slice (.int .i16)) p0] [] (.tup [.im (.slice (.int .u8)) q0,.int .i64 3]) []:=subband_Encoder_Feed.ok h0
theorem subband_Encoder_Feed.fnb : fnb Tryz.prog 23 = true:=fnb_of Tryz.func23 rfl
def format_of.res (_p0 _p1 _p2 _p3 _p4 _p5 _p6 _p7 _p8 _p9 : Int) : Int → MV
 | q0=>.int .i64 q0
def format_of.out (_p0 _p1 _p2 _p3 _p4 _p5 _p6 _p7 _p8 _p9 : Int) : Int → List (Nat × Option MObj)
 | _=>[]
theorem format_of.ok {K : Nat} {p0 p1 p2 p3 p4 p5 p6 p7 p8 p9 r : Int} (h0 : format_of K p0 p1 p2 p3 p4 p5 p6 p7 p8 p9 = some r) : Fn Tryz.prog 104 [.agg [.int .i64 p0,.int .i64 p1,.int .i64 p2,.int .i64 p3,.int .i64 p4,.int .i64 p5,.int .i64 p6,.int .i64 p7,.int .i64 p8,.int .i64 p9],.fn 105 []] [] (format_of.res p0 p1 p2 p3 p4 p5 p6 p7 p8 p9 r) (format_of.out p0 p1 p2 p3 p4 p5 p6 p7 p8 p9 r):=by
 refine Fn_of Tryz.func104 rfl (Nat.le_of_ble_eq_true rfl) fun Γ=>?_
 refine zr ?_
 refine zv 2 rfl ⟨tv,tv,tv⟩ ?_
 refine ze ?_
 refine TC_seq ?_
 refine zr ?_
 refine zv 1 rfl ⟨⟨tv,tv⟩,tv⟩ ?_
 obtain ⟨r3,hr,h0⟩:=bnd h0
 refine TL_callB [] (format_Check.ok0 hr) format_Check.fnb rfl ⟨tv,⟨tv,tv⟩⟩ rfl tv rfl ?_
 refine zv 1 rfl ⟨⟨tv,tv,tv⟩,tv⟩ ?_
 refine ze ?_
 refine TC_cond rfl (fun hb=>?_) (fun hb=>?_)
 ·replace h0:=bif_t h0 hb
  refine zr ?_
  refine zv 1 rfl ⟨tv,tv⟩ ?_
  refine ze ?_
  refine TC_ret ?_
  refine tsr ?_
  obtain rfl:=sinj h0
  exact TE_ret env rfl tv tv
 ·replace h0:=bif_f h0 hb
  refine TC_skip ?_
  refine zg ?_
  refine zv 2 rfl ⟨tv,⟨tv,tv⟩,tv⟩ ?_
  obtain ⟨r4,hr,h0⟩:=bnd h0
  refine TL_callB [] (format_payload.ok0 hr) format_payload.fnb rfl ⟨tv,⟨tv,tv⟩⟩ rfl tv rfl ?_
  refine zv 1 rfl ⟨tv,tv⟩ ?_
  refine ze ?_
  refine TC_ret ?_
  obtain rfl:=sinj h0
  exact TE_ret env rfl tv tv
theorem format_of.ok0 {K : Nat} {p0 p1 p2 p3 p4 p5 p6 p7 p8 p9 q0 : Int} (h0 : format_of K p0 p1 p2 p3 p4 p5 p6 p7 p8 p9 = some q0) : Fn Tryz.prog 104 [.agg [.int .i64 p0,.int .i64 p1,.int .i64 p2,.int .i64 p3,.int .i64 p4,.int .i64 p5,.int .i64 p6,.int .i64 p7,.int .i64 p8,.int .i64 p9],.fn 105 []] [] (.int .i64 q0) []:=format_of.ok h0
theorem format_of.fnb : fnb Tryz.prog 104 = true:=fnb_of Tryz.func104 rfl
def format_Payload.res (_p0 _p1 _p2 _p3 _p4 _p5 _p6 _p7 _p8 _p9 : Int) : Int → MV
 | q0=>.int .i64 q0
def format_Payload.out (_p0 _p1 _p2 _p3 _p4 _p5 _p6 _p7 _p8 _p9 : Int) : Int → List (Nat × Option MObj)
 | _=>[]
theorem format_Payload.ok {K : Nat} {p0 p1 p2 p3 p4 p5 p6 p7 p8 p9 r : Int} (h0 : format_Payload K p0 p1 p2 p3 p4 p5 p6 p7 p8 p9 = some r) : Fn Tryz.prog 44 [.agg [.int .i64 p0,.int .i64 p1,.int .i64 p2,.int .i64 p3,.int .i64 p4,.int .i64 p5,.int .i64 p6,.int .i64 p7,.int .i64 p8,.int .i64 p9]] [] (format_Payload.res p0 p1 p2 p3 p4 p5 p6 p7 p8 p9 r) (format_Payload.out p0 p1 p2 p3 p4 p5 p6 p7 p8 p9 r):=by
 refine Fn_of Tryz.func44 rfl (Nat.le_of_ble_eq_true rfl) fun Γ=>?_
 refine zr ?_
 refine zv 2 rfl ⟨tv,tv,tv⟩ ?_
 refine zn ?_
 refine zv 1 rfl ⟨⟨tv,tv⟩,tv⟩ ?_
 obtain ⟨r2,hr,h0⟩:=bnd h0
 refine TL_callB [] (format_of.ok0 hr) format_of.fnb rfl ⟨tv,⟨tv,⟨tv,tv⟩⟩⟩ rfl tv rfl ?_
 refine zv 1 rfl ⟨tv,tv⟩ ?_
 refine ze ?_
 refine TC_ret ?_
 obtain rfl:=sinj h0
 exact TE_ret env rfl tv tv
theorem format_Payload.ok0 {K : Nat} {p0 p1 p2 p3 p4 p5 p6 p7 p8 p9 q0 : Int} (h0 : format_Payload K p0 p1 p2 p3 p4 p5 p6 p7 p8 p9 = some q0) : Fn Tryz.prog 44 [.agg [.int .i64 p0,.int .i64 p1,.int .i64 p2,.int .i64 p3,.int .i64 p4,.int .i64 p5,.int .i64 p6,.int .i64 p7,.int .i64 p8,.int .i64 p9]] [] (.int .i64 q0) []:=format_Payload.ok h0
theorem format_Payload.fnb : fnb Tryz.prog 44 = true:=fnb_of Tryz.func44 rfl
def bytes_Clone.res (_p0 : List Int) : (List Int) → MV
 | q0=>.im (.slice (.int .u8)) q0
def bytes_Clone.out (_p0 : List Int) : (List Int) → List (Nat × Option MObj)
 | _=>[]
theorem bytes_Clone.ok {K : Nat} {p0 : List Int} {r : (List Int)} (h0 : bytes_Clone K p0 = some r) : Fn Tryz.prog 108 [.im (.slice (.int .u8)) p0] [] (bytes_Clone.res p0 r) (bytes_Clone.out p0 r):=by
 refine Fn_of Tryz.func108 rfl (Nat.le_of_ble_eq_true rfl) fun Γ=>?_
 refine zr ?_
 refine zv 1 rfl ⟨tv,tv⟩ ?_
 refine ze ?_
 refine TC_seq ?_
 refine zr ?_
 obtain ⟨g,h0⟩:=gd_t h0
 refine zv 2 rfl ⟨tv,⟨tv,tv,g⟩,tv⟩ ?_
 refine ze ?_
 refine TC_cond rfl (fun hb=>?_) (fun hb=>?_)
 ·first | exact (ftf hb).elim | exact (tff hb).elim | exact absurd hb (by decide)
 ·refine TC_skip ?_
  refine zg ?_
  obtain ⟨g,h0⟩:=gd_t h0
  refine zv 4 rfl ⟨tv,tv,⟨⟨tv,tv,tv⟩,g⟩,tv,tv⟩ ?_
  refine ze ?_
  refine TC_ret ?_
  refine TE_frz 1007 rfl ?_
  obtain rfl:=sinj h0
  exact TE_ret env rfl tv tv
theorem bytes_Clone.ok0 {K : Nat} {p0 q0 : List Int} (h0 : bytes_Clone K p0 = some q0) : Fn Tryz.prog 108 [.im (.slice (.int .u8)) p0] [] (.im (.slice (.int .u8)) q0) []:=bytes_Clone.ok h0
theorem bytes_Clone.fnb : fnb Tryz.prog 108 = true:=fnb_of Tryz.func108 rfl
def bits_Open.res (_p0 : List Int) : (Unit) ⊕ ((List Int)) → MV
 | .inl ()=>.tup [.nilp,.int .i64 2]
 | .inr _=>.tup [.p 1000 0,.int .i64 0]
def bits_Open.out (_p0 : List Int) : (Unit) ⊕ ((List Int)) → List (Nat × Option MObj)
 | .inl ()=>[]
 | .inr q0=>[(1000,some (.cells [.int .i64 0,.int .i64 0,.im (.slice (.int .u8)) q0]))]
theorem bits_Open.ok {K : Nat} {p0 : List Int} {r : (Unit) ⊕ ((List Int))} (h0 : bits_Open K p0 = some r) : Fn Tryz.prog 51 [.im (.slice (.int .u8)) p0] [] (bits_Open.res p0 r) (bits_Open.out p0 r):=by
 refine Fn_of Tryz.func51 rfl (Nat.le_of_ble_eq_true rfl) fun Γ=>?_
 refine zr ?_
 refine zv 2 rfl ⟨tv,tv,tv⟩ ?_
 refine ze ?_
 refine TC_seq ?_
 refine zr ?_
 refine zv 3 rfl ⟨tv,⟨tv,tv⟩,⟨tv,tv,tv⟩,tv⟩ ?_
 refine ze ?_
 refine TC_cond rfl (fun hb=>?_) (fun hb=>?_)
 ·replace h0:=bif_t h0 hb
  refine zr ?_
  refine zv 2 rfl ⟨tv,tv,tv⟩ ?_
  refine ze ?_
  refine TC_ret ?_
  refine tsr ?_
  obtain rfl:=sinj h0
  exact TE_ret env rfl tv tv
 ·replace h0:=bif_f h0 hb
  refine TC_skip ?_
  refine zg ?_
  refine zv 1 rfl ⟨tv,tv⟩ ?_
  obtain ⟨r3,hr,h0⟩:=bnd h0
  refine TL_callB [] (bytes_Clone.ok0 hr) bytes_Clone.fnb rfl ⟨tv,⟨tv,tv⟩⟩ rfl tv rfl ?_
  refine zv 4 rfl ⟨⟨tv,tv⟩,tv,tv,tv,tv⟩ ?_
  refine ze ?_
  refine TC_ret ?_
  obtain rfl:=sinj h0
  refine TE_renw (A':=[(2,.p 1000 0),(3,.int .i64 0)]) (L':=[(1000,some (.cells [.int .i64 0,.int .i64 0,.im (.slice (.int .u8)) _]))]) [(1000,1010)] ⟨rfl,rfl,tv⟩ ⟨rfl,tv⟩ rfl ?_
  exact TE_ret env rfl tv ⟨.inr rfl,tv⟩
theorem bits_Open.ok0 {K : Nat} {p0 : List Int}  (h0 : bits_Open K p0 = some (.inl ())) : Fn Tryz.prog 51 [.im (.slice (.int .u8)) p0] [] (.tup [.nilp,.int .i64 2]) []:=bits_Open.ok h0
theorem bits_Open.ok1 {K : Nat} {p0 q0 : List Int} (h0 : bits_Open K p0 = some (.inr q0)) : Fn Tryz.prog 51 [.im (.slice (.int .u8)) p0] [] (.tup [.p 1000 0,.int .i64 0]) [(1000,some (.cells [.int .i64 0,.int .i64 0,.im (.slice (.int .u8)) q0]))]:=bits_Open.ok h0
theorem bits_Open.fnb : fnb Tryz.prog 51 = true:=fnb_of Tryz.func51 rfl
def bits_Eye_Front.res (_p0 : Int) : Unit → MV
 | ()=>.tup [.int .u32 0,.int .i64 3]
def bits_Eye_Front.out (_p0 : Int) : Unit → List (Nat × Option MObj)
 | ()=>[]
theorem bits_Eye_Front.ok {K : Nat} {p0 : Int} {r : Unit} (h0 : bits_Eye_Front K p0 = some r) : Fn Tryz.prog 52 [.nilp,.int .i64 p0] [] (bits_Eye_Front.res p0 r) (bits_Eye_Front.out p0 r):=by
 refine Fn_of Tryz.func52 rfl (Nat.le_of_ble_eq_true rfl) fun Γ=>?_
 refine zr ?_
 refine zv 2 rfl ⟨tv,tv,tv⟩ ?_
 refine ze ?_
 refine TC_seq ?_
 refine zr ?_
 refine zv 2 rfl ⟨tv,⟨tv,tv,tv⟩,tv⟩ ?_
 refine ze ?_
 refine TC_cond rfl (fun hb=>?_) (fun hb=>?_)
 ·refine zr ?_
  refine zv 2 rfl ⟨tv,tv,tv⟩ ?_
  refine ze ?_
  refine TC_ret ?_
  refine tsr ?_
  obtain rfl:=sinj h0
  exact TE_ret env rfl tv tv
 ·first | exact (ftf hb).elim | exact (tff hb).elim | exact absurd hb (by decide)
theorem bits_Eye_Front.ok0 {K : Nat} {p0 : Int}  (h0 : bits_Eye_Front K p0 = some ()) : Fn Tryz.prog 52 [.nilp,.int .i64 p0] [] (.tup [.int .u32 0,.int .i64 3]) []:=bits_Eye_Front.ok h0
theorem bits_Eye_Front.fnb : fnb Tryz.prog 52 = true:=fnb_of Tryz.func52 rfl
def subband_take.res (_p0 _p1 : Int) : (List Int) → MV
 | q0=>.im (.slice (.int .i64)) q0
def subband_take.out (_p0 _p1 : Int) : (List Int) → List (Nat × Option MObj)
 | _=>[]
theorem subband_take.ok {K : Nat} {p0 p1 : Int} {r : (List Int)} (h0 : subband_take K p0 p1 = some r) : Fn Tryz.prog 53 [.nilp,.int .i64 p0,.int .i64 p1] [] (subband_take.res p0 p1 r) (subband_take.out p0 p1 r):=by
 refine Fn_of Tryz.func53 rfl (Nat.le_of_ble_eq_true rfl) fun Γ=>?_
 unfold subband_take at h0
 refine zr ?_
 refine zv 1 rfl ⟨tv,tv⟩ ?_
 refine zn ?_
 obtain ⟨g,h0⟩:=gd_t h0
 refine zv 3 rfl ⟨tv,⟨tv,tv,g.1,g.2.1,g.2.2⟩,tv,tv⟩ ?_
 refine ze ?_
 refine TC_seq ?_
 refine zr ?_
 refine zv 3 rfl ⟨tv,⟨tv,tv⟩,tv,tv⟩ ?_
 refine ze ?_
 obtain ⟨z1,h1,h0⟩:=bnd h0
 refine TC_cut (α:=(List Int)) (fun s=>z1 = s) (fun s=>[(7,.sl 10800)]) (fun s=>[(10800,some (.rows (.int .i64) s))]) ?_ ?_
 ·refine TC_blk ?_
  refine TC_loop (α:=Int × (List Int)) (fun n s=>subband_take.l0 K p1 ((List.replicate (Int.toNat p0) (0 : Int)).length : Int) n s.1 s.2 = some z1) (fun s=>[(0,.nilp),(2,.int .i64 p1),(7,.sl 11000),(14,.int .i64 ((List.replicate (Int.toNat p0) (0 : Int)).length : Int)),(15,.int .i64 s.1)]) (fun s=>[(11000,some (.rows (.int .i64) s.2))]) K ?_ ?_
  ·exact SP_ren [(11000,1012)] (_,_) h1 ⟨rfl,rfl,rfl,rfl,rfl,tv⟩ ⟨rfl,tv⟩ rfl
  rintro n ⟨x13,x14⟩ h1
  rcases n with _ | n
  ·exact (nsome h1).elim
  replace h1 : subband_take.r0 K p1 ((List.replicate (Int.toNat p0) (0 : Int)).length : Int) (subband_take.l0 K p1 ((List.replicate (Int.toNat p0) (0 : Int)).length : Int) n) x13 x14 = some z1:=h1
  refine zr ?_
  refine zv 1 rfl ⟨⟨tv,tv,tv⟩,tv⟩ ?_
  refine ze ?_
  refine TC_seq ?_
  refine TC_cond rfl (fun hb=>?_) (fun hb=>?_)
  ·replace h1:=bif_t h1 hb
   refine TC_skip ?_
   refine TE_go ?_
   refine TC_seq ?_
   refine TC_blk ?_
   refine zr ?_
   refine zv 2 rfl ⟨tv,tv,tv⟩ ?_
   refine zn ?_
   refine zv 2 rfl ⟨tv,tv,tv⟩ ?_
   obtain ⟨⟨⟩,hr,h1⟩:=bnd h1
   refine TL_callB [] (bits_Eye_Front.ok0 hr) bits_Eye_Front.fnb rfl ⟨tv,⟨tv,⟨tv,tv⟩⟩⟩ rfl tv rfl ?_
   refine zv 5 rfl ⟨tv,tv,tv,tv,tv,tv⟩ ?_
   refine ze ?_
   refine TC_reg ?_
   obtain ⟨g,h1⟩:=gd_t h1
   refine zv 6 rfl ⟨tv,tv,tv,tv,⟨tv,tv,g.1,g.2.1⟩,⟨tv,tv,g.2.2⟩,tv⟩ ?_
   refine TL_end ?_
   refine tbn ?_
   refine zt ?_
   refine zv 2 rfl ⟨⟨tv,tv,tv⟩,tv,tv⟩ ?_
   refine zm ?_
   exact TE_nextr [(11000,11000)] n (zs n) (_,_) h1 ⟨rfl,rfl,rfl,rfl,rfl,tv⟩ ⟨rfl,tv⟩ rfl
  ·replace h1:=bif_f h1 hb
   refine TC_exit ?_
   refine tsx ?_
   refine tsx ?_
   refine tbe ?_
   obtain rfl:=sinj h1
   refine tsn ?_
   exact SP_ren [(10800,11000)] _ rfl ⟨rfl,tv⟩ ⟨rfl,tv⟩ rfl
 ·rintro x12 hz
  obtain rfl:=hz.symm
  refine zg ?_
  refine zv 2 rfl ⟨tv,tv,tv⟩ ?_
  refine ze ?_
  refine TC_ret ?_
  refine TE_frz 10800 rfl ?_
  obtain rfl:=sinj h0
  exact TE_ret env rfl tv tv
theorem subband_take.ok0 {K : Nat} {p0 p1 : Int} {q0 : List Int} (h0 : subband_take K p0 p1 = some q0) : Fn Tryz.prog 53 [.nilp,.int .i64 p0,.int .i64 p1] [] (.im (.slice (.int .i64)) q0) []:=subband_take.ok h0
theorem subband_take.fnb : fnb Tryz.prog 53 = true:=fnb_of Tryz.func53 rfl
def alloc_may.res (_p0 _p1 _p2 _p3 _p4 _p5 _p6 _p7 _p8 _p9 : Int) (_p10 : List (List Int)) : Int → MV
 | q0=>.int .i64 q0
def alloc_may.out (_p0 _p1 _p2 _p3 _p4 _p5 _p6 _p7 _p8 _p9 : Int) (_p10 : List (List Int)) : Int → List (Nat × Option MObj)
 | _=>[]
theorem alloc_may.ok {K : Nat} {p0 p1 p2 p3 p4 p5 p6 p7 p8 p9 : Int} {p10 : List (List Int)} {r : Int} (h0 : alloc_may K p0 p1 p2 p3 p4 p5 p6 p7 p8 p9 p10 = some r) : Fn Tryz.prog 162 [.agg [.int .i64 p0,.int .i64 p1,.int .i64 p2,.int .i64 p3,.int .i64 p4,.int .i64 p5,.int .i64 p6,.int .i64 p7,.int .i64 p8,.int .i64 p9],.im (.slice (.slice (.int .i64))) p10] [] (alloc_may.res p0 p1 p2 p3 p4 p5 p6 p7 p8 p9 p10 r) (alloc_may.out p0 p1 p2 p3 p4 p5 p6 p7 p8 p9 p10 r):=by
 refine Fn_of Tryz.func162 rfl (Nat.le_of_ble_eq_true rfl) fun Γ=>?_
 refine zr ?_
 refine zv 2 rfl ⟨tv,tv,tv⟩ ?_
 refine ze ?_
 refine TC_seq ?_
 refine zr ?_
 refine zv 1 rfl ⟨⟨tv,tv⟩,tv⟩ ?_
 obtain ⟨r12,hr,h0⟩:=bnd h0
 refine TL_callB [] (format_Check.ok0 hr) format_Check.fnb rfl ⟨tv,⟨tv,tv⟩⟩ rfl tv rfl ?_
 refine zv 6 rfl ⟨⟨tv,tv,tv⟩,tv,fun eg=>tv,fun eg=>⟨fun e=>e,tv⟩,fun eg=>⟨fun e=>e,tv,tv⟩,⟨tv,tv,fun e=>e⟩,tv⟩ ?_
 refine ze ?_
 refine TC_cond rfl (fun hb=>?_) (fun hb=>?_)
 ·replace h0:=bif_t h0 hb
  refine zr ?_
  refine zv 1 rfl ⟨tv,tv⟩ ?_
  refine ze ?_
  refine TC_ret ?_
  refine tsr ?_
  obtain rfl:=sinj h0
  exact TE_ret env rfl tv tv
 ·replace h0:=bif_f h0 hb
  refine TC_skip ?_
  refine TE_go ?_
  refine TC_seq ?_
  refine zr ?_
  refine zv 5 rfl ⟨tv,⟨tv,tv⟩,tv,⟨tv,tv⟩,⟨tv,tv,tv⟩,tv⟩ ?_
  refine ze ?_
  refine TC_cond rfl (fun hb=>?_) (fun hb=>?_)
  ·replace h0:=bif_t h0 hb
   refine zr ?_
   refine zv 1 rfl ⟨tv,tv⟩ ?_
   refine ze ?_
   refine TC_ret ?_
   refine tsr ?_
   obtain rfl:=sinj h0
   exact TE_ret env rfl tv tv
  ·replace h0:=bif_f h0 hb
   refine TC_skip ?_
   refine TE_go ?_
   refine TC_seq ?_
   refine zr ?_
   refine zv 3 rfl ⟨tv,⟨tv,tv⟩,tv,tv⟩ ?_
   refine ze ?_
   obtain ⟨z1,h1,h0⟩:=bnd h0
   refine TC_cut (α:=Unit) (fun _=>z1 = .inl ()) (fun _=>[]) (fun _=>[]) ?_ ?_
   ·refine TC_blk ?_
    refine TC_loop (α:=Int) (fun n s=>alloc_may.l0 K p10 (p10.length : Int) p0 p1 p2 p3 p4 p5 p6 p7 p8 p9 n s = some z1) (fun s=>[(2,.p 15000 0),(22,.im (.slice (.slice (.int .i64))) p10),(23,.int .i64 (p10.length : Int)),(24,.int .i64 s)]) (fun s=>[(15000,some (.cells [.int .i64 p0,.int .i64 p1,.int .i64 p2,.int .i64 p3,.int .i64 p4,.int .i64 p5,.int .i64 p6,.int .i64 p7,.int .i64 p8,.int .i64 p9]))]) K ?_ ?_
    ·exact SP_ren [(15000,1002)] _ h1 ⟨rfl,rfl,rfl,rfl,tv⟩ ⟨rfl,tv⟩ rfl
    rintro n x29 h1
    rcases n with _ | n
    ·exact (nsome h1).elim
    replace h1 : alloc_may.r0 K p10 (p10.length : Int) p0 p1 p2 p3 p4 p5 p6 p7 p8 p9 (alloc_may.l0 K p10 (p10.length : Int) p0 p1 p2 p3 p4 p5 p6 p7 p8 p9 n) x29 = some z1:=h1
    refine zr ?_
    refine zv 1 rfl ⟨⟨tv,tv,tv⟩,tv⟩ ?_
    refine ze ?_
    refine TC_seq ?_
    refine TC_cond rfl (fun hb=>?_) (fun hb=>?_)
    ·replace h1:=bif_t h1 hb
     refine TC_skip ?_
     refine TE_go ?_
     refine TC_seq ?_
     refine TC_blk ?_
     refine zr ?_
     obtain ⟨g,h1⟩:=gd_t h1
     refine zv 3 rfl ⟨⟨tv,tv,g.1,g.2⟩,⟨tv,tv⟩,tv,tv⟩ ?_
     refine ze ?_
     refine TC_seq ?_
     refine zr ?_
     refine zv 5 rfl ⟨tv,⟨tv,tv⟩,tv,⟨tv,tv⟩,⟨tv,tv,tv⟩,tv⟩ ?_
     refine ze ?_
     refine TC_cond rfl (fun hb=>?_) (fun hb=>?_)
     ·replace h1:=bif_t h1 hb
      refine zr ?_
      refine zv 1 rfl ⟨tv,tv⟩ ?_
      refine ze ?_
      refine TC_ret ?_
      refine tsr ?_
      refine tbr ?_
      refine tsr ?_
      refine tsr ?_
      refine tbr ?_
      refine tsr ?_
      refine tsr ?_
      obtain rfl:=sinj h1
      obtain rfl:=sinj h0
      exact TE_ret env rfl tv tv
     ·replace h1:=bif_f h1 hb
      refine TC_skip ?_
      refine zg ?_
      refine zv 3 rfl ⟨tv,⟨tv,tv⟩,tv,tv⟩ ?_
      refine ze ?_
      obtain ⟨z2,h2,h1⟩:=bnd h1
      refine TC_cut (α:=Unit) (fun _=>z2 = .inl ()) (fun _=>[(2,.p 16700 0),(22,.im (.slice (.slice (.int .i64))) p10),(23,.int .i64 (p10.length : Int)),(24,.int .i64 x29)]) (fun _=>[(16700,some (.cells [.int .i64 p0,.int .i64 p1,.int .i64 p2,.int .i64 p3,.int .i64 p4,.int .i64 p5,.int .i64 p6,.int .i64 p7,.int .i64 p8,.int .i64 p9]))]) ?_ ?_
      ·refine TC_blk ?_
       refine TC_loop (α:=Int) (fun n s=>alloc_may.l1 K p10 (p10.length : Int) x29 (Kd.nth (.slice (.int .i64)) p10 (Int.toNat x29)) ((Kd.nth (.slice (.int .i64)) p10 (Int.toNat x29)).length : Int) p0 p1 p2 p3 p4 p5 p6 p7 p8 p9 n s = some z2) (fun s=>[(2,.p 16900 0),(22,.im (.slice (.slice (.int .i64))) p10),(23,.int .i64 (p10.length : Int)),(24,.int .i64 x29),(33,.im (.slice (.int .i64)) (Kd.nth (.slice (.int .i64)) p10 (Int.toNat x29))),(34,.int .i64 ((Kd.nth (.slice (.int .i64)) p10 (Int.toNat x29)).length : Int)),(35,.int .i64 s)]) (fun s=>[(16900,some (.cells [.int .i64 p0,.int .i64 p1,.int .i64 p2,.int .i64 p3,.int .i64 p4,.int .i64 p5,.int .i64 p6,.int .i64 p7,.int .i64 p8,.int .i64 p9]))]) K ?_ ?_
       ·exact SP_ren [(16900,15000)] _ h2 ⟨rfl,rfl,rfl,rfl,rfl,rfl,rfl,tv⟩ ⟨rfl,tv⟩ rfl
       rintro n x43 h2
       rcases n with _ | n
       ·exact (nsome h2).elim
       replace h2 : alloc_may.r1 K p10 (p10.length : Int) x29 (Kd.nth (.slice (.int .i64)) p10 (Int.toNat x29)) ((Kd.nth (.slice (.int .i64)) p10 (Int.toNat x29)).length : Int) p0 p1 p2 p3 p4 p5 p6 p7 p8 p9 (alloc_may.l1 K p10 (p10.length : Int) x29 (Kd.nth (.slice (.int .i64)) p10 (Int.toNat x29)) ((Kd.nth (.slice (.int .i64)) p10 (Int.toNat x29)).length : Int) p0 p1 p2 p3 p4 p5 p6 p7 p8 p9 n) x43 = some z2:=h2
       refine zr ?_
       refine zv 1 rfl ⟨⟨tv,tv,tv⟩,tv⟩ ?_
       refine ze ?_
       refine TC_seq ?_
       refine TC_cond rfl (fun hb=>?_) (fun hb=>?_)
       ·replace h2:=bif_t h2 hb
        refine TC_skip ?_
        refine TE_go ?_
        refine TC_seq ?_
        refine TC_blk ?_
        refine zr ?_
        obtain ⟨g,h2⟩:=gd_t h2
        refine zv 3 rfl ⟨⟨tv,tv,g.1,g.2⟩,⟨tv,tv⟩,tv,tv⟩ ?_
        refine zn ?_
        refine zv 6 rfl ⟨tv,⟨tv,tv,tv⟩,tv,fun eg=>tv,fun eg=>⟨fun e=>e,tv,tv⟩,⟨tv,tv,fun e=>e⟩,tv⟩ ?_
        refine ze ?_
        refine TC_cond rfl (fun hb=>?_) (fun hb=>?_)
        ·replace h2:=bif_t h2 hb
         refine zr ?_
         refine zv 1 rfl ⟨tv,tv⟩ ?_
         refine ze ?_
         refine TC_ret ?_
         refine tbr ?_
         refine tsr ?_
         refine tsr ?_
         refine tbr ?_
         refine tsr ?_
         refine tbr ?_
         refine tsr ?_
         refine tsr ?_
         refine tbr ?_
         refine tsr ?_
         refine tsr ?_
         obtain rfl:=sinj h2
         obtain rfl:=sinj h1
         obtain rfl:=sinj h0
         exact TE_ret env rfl tv tv
        ·replace h2:=bif_f h2 hb
         refine TC_skip ?_
         refine tbn ?_
         refine zt ?_
         refine zv 2 rfl ⟨⟨tv,tv,tv⟩,tv,tv⟩ ?_
         refine zm ?_
         exact TE_nextr [(16900,16900)] n (zs n) _ h2 ⟨rfl,rfl,rfl,rfl,rfl,rfl,rfl,tv⟩ ⟨rfl,tv⟩ rfl
       ·replace h2:=bif_f h2 hb
        refine TC_exit ?_
        refine tsx ?_
        refine tsx ?_
        refine tbe ?_
        obtain rfl:=sinj h2
        refine tsn ?_
        exact SP_ren [(16700,16900)] () rfl ⟨rfl,rfl,rfl,rfl,tv⟩ ⟨rfl,tv⟩ rfl
      ·rintro ⟨⟩ rfl
       refine tbn ?_
       refine zt ?_
       refine zv 2 rfl ⟨⟨tv,tv,tv⟩,tv,tv⟩ ?_
       refine zm ?_
       exact TE_nextr [(15000,16700)] n (zs n) _ h1 ⟨rfl,rfl,rfl,rfl,tv⟩ ⟨rfl,tv⟩ rfl
    ·replace h1:=bif_f h1 hb
     refine TC_exit ?_
     refine tsx ?_
     refine tsx ?_
     refine tbe ?_
     obtain rfl:=sinj h1
     refine tsn ?_
     exact SP_ren [] () rfl tv tv rfl
   ·rintro ⟨⟩ rfl
    refine zg ?_
    refine zv 1 rfl ⟨tv,tv⟩ ?_
    refine ze ?_
    refine TC_ret ?_
    obtain rfl:=sinj h0
    exact TE_ret env rfl tv tv
theorem alloc_may.ok0 {K : Nat} {p0 p1 p2 p3 p4 p5 p6 p7 p8 p9 : Int} {p10 : List (List Int)} {q0 : Int} (h0 : alloc_may K p0 p1 p2 p3 p4 p5 p6 p7 p8 p9 p10 = some q0) : Fn Tryz.prog 162 [.agg [.int .i64 p0,.int .i64 p1,.int .i64 p2,.int .i64 p3,.int .i64 p4,.int .i64 p5,.int .i64 p6,.int .i64 p7,.int .i64 p8,.int .i64 p9],.im (.slice (.slice (.int .i64))) p10] [] (.int .i64 q0) []:=alloc_may.ok h0
theorem alloc_may.fnb : fnb Tryz.prog 162 = true:=fnb_of Tryz.func162 rfl
def alloc_four.res  : Unit → MV
 | ()=>.agg [.int .i64 (-1),.int .i64 0,.int .i64 0,.int .i64 0,.int .i64 (-2),.int .i64 0,.int .i64 0,.int .i64 1,.int .i64 (-2),.int .i64 0,.int .i64 0,.int .i64 1,.int .i64 (-2),.int .i64 0,.int .i64 0,.int .i64 1]
def alloc_four.out  : Unit → List (Nat × Option MObj)
 | ()=>[]
theorem alloc_four.ok {K : Nat}  {r : Unit} (h0 : alloc_four K  = some r) : Fn Tryz.prog 202 [] [] (alloc_four.res  r) (alloc_four.out  r):=by
 refine Fn_of Tryz.func202 rfl (Nat.le_of_ble_eq_true rfl) fun Γ=>?_
 refine zr ?_
 refine zv 1 rfl ⟨tv,tv⟩ ?_
 refine zn ?_
 refine zv 6 rfl ⟨⟨tv,tv,tv,tv,tv⟩,⟨tv,tv,tv,tv,tv⟩,⟨tv,tv,tv,tv,tv⟩,⟨tv,tv,tv,tv,tv⟩,⟨tv,tv,tv,tv,tv⟩,⟨tv,tv⟩,tv⟩ ?_
 refine ze ?_
 refine TC_ret ?_
 obtain rfl:=sinj h0
 exact TE_ret env rfl ⟨tv,tv⟩ tv
theorem alloc_four.ok0 {K : Nat}   (h0 : alloc_four K  = some ()) : Fn Tryz.prog 202 [] [] (.agg [.int .i64 (-1),.int .i64 0,.int .i64 0,.int .i64 0,.int .i64 (-2),.int .i64 0,.int .i64 0,.int .i64 1,.int .i64 (-2),.int .i64 0,.int .i64 0,.int .i64 1,.int .i64 (-2),.int .i64 0,.int .i64 0,.int .i64 1]) []:=alloc_four.ok h0
theorem alloc_four.fnb : fnb Tryz.prog 202 = true:=fnb_of Tryz.func202 rfl
def alloc_eight.res  : Unit → MV
 | ()=>.agg [.int .i64 (-2),.int .i64 0,.int .i64 0,.int .i64 0,.int .i64 0,.int .i64 0,.int .i64 0,.int .i64 1,.int .i64 (-3),.int .i64 0,.int .i64 0,.int .i64 0,.int .i64 0,.int .i64 0,.int .i64 1,.int .i64 2,.int .i64 (-4),.int .i64 0,.int .i64 0,.int .i64 0,.int .i64 0,.int .i64 0,.int .i64 1,.int .i64 2,.int .i64 (-4),.int .i64 0,.int .i64 0,.int .i64 0,.int .i64 0,.int .i64 0,.int .i64 1,.int .i64 2]
def alloc_eight.out  : Unit → List (Nat × Option MObj)
 | ()=>[]
theorem alloc_eight.ok {K : Nat}  {r : Unit} (h0 : alloc_eight K  = some r) : Fn Tryz.prog 203 [] [] (alloc_eight.res  r) (alloc_eight.out  r):=by
 refine Fn_of Tryz.func203 rfl (Nat.le_of_ble_eq_true rfl) fun Γ=>?_
 refine zr ?_
 refine zv 1 rfl ⟨tv,tv⟩ ?_
 refine zn ?_
 refine zv 6 rfl ⟨⟨tv,tv,tv,tv,tv,tv,tv,tv,tv⟩,⟨tv,tv,tv,tv,tv,tv,tv,tv,tv⟩,⟨tv,tv,tv,tv,tv,tv,tv,tv,tv⟩,⟨tv,tv,tv,tv,tv,tv,tv,tv,tv⟩,⟨tv,tv,tv,tv,tv⟩,⟨tv,tv⟩,tv⟩ ?_
 refine ze ?_
 refine TC_ret ?_
 obtain rfl:=sinj h0
 exact TE_ret env rfl ⟨tv,tv⟩ tv
theorem alloc_eight.ok0 {K : Nat}   (h0 : alloc_eight K  = some ()) : Fn Tryz.prog 203 [] [] (.agg [.int .i64 (-2),.int .i64 0,.int .i64 0,.int .i64 0,.int .i64 0,.int .i64 0,.int .i64 0,.int .i64 1,.int .i64 (-3),.int .i64 0,.int .i64 0,.int .i64 0,.int .i64 0,.int .i64 0,.int .i64 1,.int .i64 2,.int .i64 (-4),.int .i64 0,.int .i64 0,.int .i64 0,.int .i64 0,.int .i64 0,.int .i64 1,.int .i64 2,.int .i64 (-4),.int .i64 0,.int .i64 0,.int .i64 0,.int .i64 0,.int .i64 0,.int .i64 1,.int .i64 2]) []:=alloc_eight.ok h0
theorem alloc_eight.fnb : fnb Tryz.prog 203 = true:=fnb_of Tryz.func203 rfl
def alloc_offset.res (_p0 _p1 _p2 _p3 _p4 _p5 _p6 _p7 _p8 _p9 _p10 : Int) : Int → MV
 | q0=>.int .i64 q0
def alloc_offset.out (_p0 _p1 _p2 _p3 _p4 _p5 _p6 _p7 _p8 _p9 _p10 : Int) : Int → List (Nat × Option MObj)
 | _=>[]
theorem alloc_offset.ok {K : Nat} {p0 p1 p2 p3 p4 p5 p6 p7 p8 p9 p10 r : Int} (h0 : alloc_offset K p0 p1 p2 p3 p4 p5 p6 p7 p8 p9 p10 = some r) : Fn Tryz.prog 188 [.agg [.int .i64 p0,.int .i64 p1,.int .i64 p2,.int .i64 p3,.int .i64 p4,.int .i64 p5,.int .i64 p6,.int .i64 p7,.int .i64 p8,.int .i64 p9],.int .i64 p10] [] (alloc_offset.res p0 p1 p2 p3 p4 p5 p6 p7 p8 p9 p10 r) (alloc_offset.out p0 p1 p2 p3 p4 p5 p6 p7 p8 p9 p10 r):=by
 refine Fn_of Tryz.func188 rfl (Nat.le_of_ble_eq_true rfl) fun Γ=>?_
 unfold alloc_offset at h0
 refine zr ?_
 refine zv 2 rfl ⟨tv,tv,tv⟩ ?_
 refine ze ?_
 refine TC_seq ?_
 refine zr ?_
 refine zv 3 rfl ⟨tv,⟨tv,tv⟩,⟨tv,tv,tv⟩,tv⟩ ?_
 refine ze ?_
 refine TC_cond rfl (fun hb=>?_) (fun hb=>?_)
 ·replace h0:=bif_t h0 hb
  refine TC_seq ?_
  refine TC_renw (A':=[(1,.int .i64 _),(2,.p 1002 0),(4,.int .i64 0)]) (L':=[(1002,some (.cells [.int .i64 _,.int .i64 _,.int .i64 _,.int .i64 _,.int .i64 _,.int .i64 _,.int .i64 _,.int .i64 _,.int .i64 _,.int .i64 _]))]) [] ⟨rfl,rfl,rfl,tv⟩ ⟨rfl,tv⟩ rfl ?_
  refine zd [[],[],[1],[2,1,0],[],[4,3,2,1,0],[5,4,3,2,1,0]] [[],[],[],[],[],[],[]] [[],[],[],[],[],[],[]] [[],[],[],[],[],[],[]] (by kernel_rfl) (by kernel_rfl) ?_
  obtain ⟨⟨⟩,hr,h0⟩:=bnd h0
  refine AJR_call 1 rfl (Nat.le_of_ble_eq_true rfl) [] rfl (alloc_four.ok0 hr) alloc_four.fnb rfl ⟨tv,tv⟩ rfl tv rfl ?_
  refine zj 2 rfl rfl rfl tv ?_
  refine zj 3 rfl rfl rfl ⟨tv,tv⟩ ?_
  obtain ⟨g,h0⟩:=gd_t h0
  refine zj 4 rfl rfl rfl ⟨tv,tv,g.1,g.2⟩ ?_
  refine zj 5 rfl rfl rfl tv ?_
  obtain ⟨g,h0⟩:=gd_t h0
  refine zj 6 rfl rfl rfl ⟨tv,tv,g.1,g.2⟩ ?_
  refine zj 7 rfl rfl rfl tv ?_
  refine AJR_end rfl rfl rfl ?_
  refine zu ?_
  refine tsr ?_
  obtain rfl:=sinj h0
  exact TE_ret env rfl tv tv
 ·replace h0:=bif_f h0 hb
  refine TC_skip ?_
  refine TE_go ?_
  refine TC_seq ?_
  refine TC_renw (A':=[(1,.int .i64 _),(2,.p 1002 0),(4,.int .i64 0)]) (L':=[(1002,some (.cells [.int .i64 _,.int .i64 _,.int .i64 _,.int .i64 _,.int .i64 _,.int .i64 _,.int .i64 _,.int .i64 _,.int .i64 _,.int .i64 _]))]) [] ⟨rfl,rfl,rfl,tv⟩ ⟨rfl,tv⟩ rfl ?_
  refine zd [[],[],[1],[2,1,0],[],[4,3,2,1,0],[5,4,3,2,1,0]] [[],[],[],[],[],[],[]] [[],[],[],[],[],[],[]] [[],[],[],[],[],[],[]] (by kernel_rfl) (by kernel_rfl) ?_
  obtain ⟨⟨⟩,hr,h0⟩:=bnd h0
  refine AJR_call 1 rfl (Nat.le_of_ble_eq_true rfl) [] rfl (alloc_eight.ok0 hr) alloc_eight.fnb rfl ⟨tv,tv⟩ rfl tv rfl ?_
  refine zj 2 rfl rfl rfl tv ?_
  refine zj 3 rfl rfl rfl ⟨tv,tv⟩ ?_
  obtain ⟨g,h0⟩:=gd_t h0
  refine zj 4 rfl rfl rfl ⟨tv,tv,g.1,g.2⟩ ?_
  refine zj 5 rfl rfl rfl tv ?_
  obtain ⟨g,h0⟩:=gd_t h0
  refine zj 6 rfl rfl rfl ⟨tv,tv,g.1,g.2⟩ ?_
  refine zj 7 rfl rfl rfl tv ?_
  refine AJR_end rfl rfl rfl ?_
  refine zu ?_
  obtain rfl:=sinj h0
  exact TE_ret env rfl tv tv
theorem alloc_offset.ok0 {K : Nat} {p0 p1 p2 p3 p4 p5 p6 p7 p8 p9 p10 q0 : Int} (h0 : alloc_offset K p0 p1 p2 p3 p4 p5 p6 p7 p8 p9 p10 = some q0) : Fn Tryz.prog 188 [.agg [.int .i64 p0,.int .i64 p1,.int .i64 p2,.int .i64 p3,.int .i64 p4,.int .i64 p5,.int .i64 p6,.int .i64 p7,.int .i64 p8,.int .i64 p9],.int .i64 p10] [] (.int .i64 q0) []:=alloc_offset.ok h0
theorem alloc_offset.fnb : fnb Tryz.prog 188 = true:=fnb_of Tryz.func188 rfl
def alloc_need.res (_p0 _p1 _p2 _p3 _p4 _p5 _p6 _p7 _p8 _p9 _p10 _p11 : Int) : Int → MV
 | q0=>.int .i64 q0
def alloc_need.out (_p0 _p1 _p2 _p3 _p4 _p5 _p6 _p7 _p8 _p9 _p10 _p11 : Int) : Int → List (Nat × Option MObj)
 | _=>[]
theorem alloc_need.ok {K : Nat} {p0 p1 p2 p3 p4 p5 p6 p7 p8 p9 p10 p11 r : Int} (h0 : alloc_need K p0 p1 p2 p3 p4 p5 p6 p7 p8 p9 p10 p11 = some r) : Fn Tryz.prog 163 [.agg [.int .i64 p0,.int .i64 p1,.int .i64 p2,.int .i64 p3,.int .i64 p4,.int .i64 p5,.int .i64 p6,.int .i64 p7,.int .i64 p8,.int .i64 p9],.int .i64 p10,.int .i64 p11] [] (alloc_need.res p0 p1 p2 p3 p4 p5 p6 p7 p8 p9 p10 p11 r) (alloc_need.out p0 p1 p2 p3 p4 p5 p6 p7 p8 p9 p10 p11 r):=by
 refine Fn_of Tryz.func163 rfl (Nat.le_of_ble_eq_true rfl) fun Γ=>?_
 refine zr ?_
 refine zv 2 rfl ⟨tv,tv,tv⟩ ?_
 refine ze ?_
 refine TC_seq ?_
 refine zr ?_
 refine zv 3 rfl ⟨tv,⟨tv,tv⟩,⟨tv,tv,tv⟩,tv⟩ ?_
 refine ze ?_
 refine TC_cond rfl (fun hb=>?_) (fun hb=>?_)
 ·replace h0:=bif_t h0 hb
  refine zr ?_
  refine zv 2 rfl ⟨tv,tv,tv⟩ ?_
  refine ze ?_
  refine TC_ret ?_
  refine tsr ?_
  obtain rfl:=sinj h0
  exact TE_ret env rfl tv tv
 ·replace h0:=bif_f h0 hb
  refine TC_skip ?_
  refine TE_go ?_
  refine TC_seq ?_
  refine zr ?_
  refine zv 2 rfl ⟨tv,⟨tv,tv,tv⟩,tv⟩ ?_
  refine ze ?_
  refine TC_cond rfl (fun hb=>?_) (fun hb=>?_)
  ·replace h0:=bif_t h0 hb
   refine zr ?_
   refine zv 1 rfl ⟨tv,tv⟩ ?_
   refine ze ?_
   refine TC_ret ?_
   refine tsr ?_
   obtain rfl:=sinj h0
   exact TE_ret env rfl tv tv
  ·replace h0:=bif_f h0 hb
   refine TC_skip ?_
   refine zg ?_
   refine zv 3 rfl ⟨tv,⟨tv,tv⟩,tv,tv⟩ ?_
   obtain ⟨r3,hr,h0⟩:=bnd h0
   refine TL_callB [] (alloc_offset.ok0 hr) alloc_offset.fnb rfl ⟨tv,⟨tv,⟨tv,tv⟩⟩⟩ rfl tv rfl ?_
   refine zv 2 rfl ⟨⟨tv,tv,tv⟩,tv,tv⟩ ?_
   refine ze ?_
   refine TC_seq ?_
   refine zr ?_
   refine zv 2 rfl ⟨tv,⟨tv,tv,tv⟩,tv⟩ ?_
   refine ze ?_
   obtain ⟨z1,h1,h0⟩:=bnd h0
   refine TC_cut (α:=Int) (fun s=>z1 = s) (fun s=>[(7,.int .i64 s)]) (fun s=>[]) ?_ ?_
   ·refine TC_cond rfl (fun hb=>?_) (fun hb=>?_)
    ·replace h1:=bif_t h1 hb
     refine TC_reg ?_
     refine zv 3 rfl ⟨tv,⟨tv,tv,(by decide)⟩,tv,tv⟩ ?_
     refine TL_end ?_
     obtain rfl:=sinj h1
     refine tsn ?_
     exact SP_ren [] _ rfl ⟨rfl,tv⟩ tv rfl
    ·replace h1:=bif_f h1 hb
     refine TC_skip ?_
     obtain rfl:=sinj h1
     refine tsn ?_
     exact SP_ren [] _ rfl ⟨rfl,tv⟩ tv rfl
   ·rintro x6 hz
    obtain rfl:=hz.symm
    refine zg ?_
    refine zv 2 rfl ⟨tv,tv,tv⟩ ?_
    refine ze ?_
    refine TC_ret ?_
    obtain rfl:=sinj h0
    exact TE_ret env rfl tv tv
theorem alloc_need.ok0 {K : Nat} {p0 p1 p2 p3 p4 p5 p6 p7 p8 p9 p10 p11 q0 : Int} (h0 : alloc_need K p0 p1 p2 p3 p4 p5 p6 p7 p8 p9 p10 p11 = some q0) : Fn Tryz.prog 163 [.agg [.int .i64 p0,.int .i64 p1,.int .i64 p2,.int .i64 p3,.int .i64 p4,.int .i64 p5,.int .i64 p6,.int .i64 p7,.int .i64 p8,.int .i64 p9],.int .i64 p10,.int .i64 p11] [] (.int .i64 q0) []:=alloc_need.ok h0
theorem alloc_need.fnb : fnb Tryz.prog 163 = true:=fnb_of Tryz.func163 rfl
def alloc_Needs.res (_p0 _p1 _p2 _p3 _p4 _p5 _p6 _p7 _p8 _p9 : Int) (_p10 : List (List Int)) : (List (List Int)) × Int → MV
 | (q0,q1)=>.tup [.im (.slice (.slice (.int .i64))) q0,.int .i64 q1]
def alloc_Needs.out (_p0 _p1 _p2 _p3 _p4 _p5 _p6 _p7 _p8 _p9 : Int) (_p10 : List (List Int)) : (List (List Int)) × Int → List (Nat × Option MObj)
 | (_,_)=>[]
theorem alloc_Needs.ok {K : Nat} {p0 p1 p2 p3 p4 p5 p6 p7 p8 p9 : Int} {p10 : List (List Int)} {r : (List (List Int)) × Int} (h0 : alloc_Needs K p0 p1 p2 p3 p4 p5 p6 p7 p8 p9 p10 = some r) : Fn Tryz.prog 112 [.agg [.int .i64 p0,.int .i64 p1,.int .i64 p2,.int .i64 p3,.int .i64 p4,.int .i64 p5,.int .i64 p6,.int .i64 p7,.int .i64 p8,.int .i64 p9],.im (.slice (.slice (.int .i64))) p10] [] (alloc_Needs.res p0 p1 p2 p3 p4 p5 p6 p7 p8 p9 p10 r) (alloc_Needs.out p0 p1 p2 p3 p4 p5 p6 p7 p8 p9 p10 r):=by
 refine Fn_of Tryz.func112 rfl (Nat.le_of_ble_eq_true rfl) fun Γ=>?_
 refine zr ?_
 refine zv 3 rfl ⟨tv,tv,tv,tv⟩ ?_
 refine ze ?_
 refine TC_seq ?_
 refine zr ?_
 refine zv 2 rfl ⟨⟨tv,tv⟩,tv,tv⟩ ?_
 obtain ⟨r43,hr,h0⟩:=bnd h0
 refine TL_callB [] (alloc_may.ok0 hr) alloc_may.fnb rfl ⟨tv,⟨tv,⟨tv,tv⟩⟩⟩ rfl tv rfl ?_
 refine zv 1 rfl ⟨tv,tv⟩ ?_
 refine zn ?_
 refine zv 2 rfl ⟨tv,⟨tv,tv,tv⟩,tv⟩ ?_
 refine ze ?_
 refine TC_cond rfl (fun hb=>?_) (fun hb=>?_)
 ·replace h0:=bif_t h0 hb
  refine zr ?_
  refine zv 3 rfl ⟨tv,tv,tv,tv⟩ ?_
  refine ze ?_
  refine TC_ret ?_
  refine tsr ?_
  refine TE_imn 4 (.slice (.int .i64)) rfl ?_
  obtain rfl:=sinj h0
  exact TE_ret env rfl tv tv
 ·replace h0:=bif_f h0 hb
  refine TC_skip ?_
  refine zg ?_
  obtain ⟨g,h0⟩:=gd_t h0
  refine zv 4 rfl ⟨tv,⟨tv,tv⟩,⟨tv,tv,g.1,g.2.1,g.2.2⟩,tv,tv⟩ ?_
  refine ze ?_
  refine TC_seq ?_
  refine zr ?_
  refine zv 3 rfl ⟨tv,⟨tv,tv⟩,tv,tv⟩ ?_
  refine ze ?_
  obtain ⟨z1,h1,h0⟩:=bnd h0
  refine TC_cut (α:=(List (List Int))) (fun s=>z1 = s) (fun s=>[(7,.sl 14000)]) (fun s=>[(14000,some (.rr true (.int .i64) s none))]) ?_ ?_
  ·refine TC_blk ?_
   refine TC_loop (α:=Int × (List (List Int))) (fun n s=>alloc_Needs.l0 K p10 ((List.replicate (Int.toNat p2) ([] : List Int)).length : Int) p0 p1 p2 p3 p4 p5 p6 p7 p8 p9 n s.1 s.2 = some z1) (fun s=>[(1,.im (.slice (.slice (.int .i64))) p10),(2,.p 15000 0),(7,.sl 15001),(21,.int .i64 ((List.replicate (Int.toNat p2) ([] : List Int)).length : Int)),(22,.int .i64 s.1)]) (fun s=>[(15000,some (.cells [.int .i64 p0,.int .i64 p1,.int .i64 p2,.int .i64 p3,.int .i64 p4,.int .i64 p5,.int .i64 p6,.int .i64 p7,.int .i64 p8,.int .i64 p9])),(15001,some (.rr true (.int .i64) s.2 none))]) K ?_ ?_
   ·exact SP_ren [(15000,1002),(15001,1019)] (_,_) h1 ⟨rfl,rfl,rfl,rfl,rfl,tv⟩ ⟨rfl,rfl,tv⟩ rfl
   rintro n ⟨x105,x106⟩ h1
   rcases n with _ | n
   ·exact (nsome h1).elim
   replace h1 : alloc_Needs.r0 K p10 ((List.replicate (Int.toNat p2) ([] : List Int)).length : Int) p0 p1 p2 p3 p4 p5 p6 p7 p8 p9 (alloc_Needs.l0 K p10 ((List.replicate (Int.toNat p2) ([] : List Int)).length : Int) p0 p1 p2 p3 p4 p5 p6 p7 p8 p9 n) x105 x106 = some z1:=h1
   refine zr ?_
   refine zv 1 rfl ⟨⟨tv,tv,tv⟩,tv⟩ ?_
   refine ze ?_
   refine TC_seq ?_
   refine TC_cond rfl (fun hb=>?_) (fun hb=>?_)
   ·replace h1:=bif_t h1 hb
    refine TC_skip ?_
    refine TE_go ?_
    refine TC_seq ?_
    refine TC_blk ?_
    refine zr ?_
    refine zv 2 rfl ⟨tv,tv,tv⟩ ?_
    refine zn ?_
    obtain ⟨g,h1⟩:=gd_t h1
    refine zv 6 rfl ⟨tv,tv,⟨tv,tv,g.1,g.2⟩,⟨tv,tv⟩,⟨tv,tv⟩,tv,tv⟩ ?_
    refine ze ?_
    obtain ⟨z2,h2,h1⟩:=bnd h1
    refine TC_cut (α:=(List (List Int))) (fun s=>z2 = s) (fun s=>[(1,.im (.slice (.slice (.int .i64))) p10),(2,.p 16700 0),(7,.sl 16701),(21,.int .i64 ((List.replicate (Int.toNat p2) ([] : List Int)).length : Int)),(22,.int .i64 x105)]) (fun s=>[(16700,some (.cells [.int .i64 p0,.int .i64 p1,.int .i64 p2,.int .i64 p3,.int .i64 p4,.int .i64 p5,.int .i64 p6,.int .i64 p7,.int .i64 p8,.int .i64 p9])),(16701,some (.rr true (.int .i64) s none))]) ?_ ?_
    ·refine TC_blk ?_
     refine TC_loop (α:=Int × (List (List Int))) (fun n s=>alloc_Needs.l1 K p10 x105 ((List.replicate (Int.toNat p2) ([] : List Int)).length : Int) (Kd.nth (.slice (.int .i64)) p10 (Int.toNat x105)) ((Kd.nth (.slice (.int .i64)) p10 (Int.toNat x105)).length : Int) p0 p1 p2 p3 p4 p5 p6 p7 p8 p9 n s.1 s.2 = some z2) (fun s=>[(1,.im (.slice (.slice (.int .i64))) p10),(2,.p 16900 0),(7,.sl 16901),(8,.int .i64 x105),(21,.int .i64 ((List.replicate (Int.toNat p2) ([] : List Int)).length : Int)),(22,.int .i64 x105),(28,.im (.slice (.int .i64)) (Kd.nth (.slice (.int .i64)) p10 (Int.toNat x105))),(29,.int .i64 ((Kd.nth (.slice (.int .i64)) p10 (Int.toNat x105)).length : Int)),(30,.int .i64 s.1)]) (fun s=>[(16900,some (.cells [.int .i64 p0,.int .i64 p1,.int .i64 p2,.int .i64 p3,.int .i64 p4,.int .i64 p5,.int .i64 p6,.int .i64 p7,.int .i64 p8,.int .i64 p9])),(16901,some (.rr true (.int .i64) s.2 none))]) K ?_ ?_
     ·exact SP_ren [(16900,15000),(16901,15001)] (_,_) h2 ⟨rfl,rfl,rfl,rfl,rfl,rfl,rfl,rfl,rfl,tv⟩ ⟨rfl,rfl,tv⟩ rfl
     rintro n ⟨x151,x152⟩ h2
     rcases n with _ | n
     ·exact (nsome h2).elim
     replace h2 : alloc_Needs.r1 K p10 x105 ((List.replicate (Int.toNat p2) ([] : List Int)).length : Int) (Kd.nth (.slice (.int .i64)) p10 (Int.toNat x105)) ((Kd.nth (.slice (.int .i64)) p10 (Int.toNat x105)).length : Int) p0 p1 p2 p3 p4 p5 p6 p7 p8 p9 (alloc_Needs.l1 K p10 x105 ((List.replicate (Int.toNat p2) ([] : List Int)).length : Int) (Kd.nth (.slice (.int .i64)) p10 (Int.toNat x105)) ((Kd.nth (.slice (.int .i64)) p10 (Int.toNat x105)).length : Int) p0 p1 p2 p3 p4 p5 p6 p7 p8 p9 n) x151 x152 = some z2:=h2
     refine zr ?_
     refine zv 1 rfl ⟨⟨tv,tv,tv⟩,tv⟩ ?_
     refine ze ?_
     refine TC_seq ?_
     refine TC_cond rfl (fun hb=>?_) (fun hb=>?_)
     ·replace h2:=bif_t h2 hb
      refine TC_skip ?_
      refine TE_go ?_
      refine TC_seq ?_
      refine TC_blk ?_
      refine zr ?_
      obtain ⟨g,h2⟩:=gd_t h2
      refine zv 5 rfl ⟨tv,⟨tv,tv,g.1,g.2⟩,⟨tv,tv⟩,tv,tv,tv⟩ ?_
      refine ze ?_
      refine TC_renw (A':=[(1,.im (.slice (.slice (.int .i64))) _),(2,.p 16900 0),(7,.sl 16901),(8,.int .i64 _),(9,.int .i64 _),(10,.int .i64 _),(21,.int .i64 _),(22,.int .i64 _),(28,.im (.slice (.int .i64)) _),(29,.int .i64 _),(30,.int .i64 _)]) (L':=[(16900,some (.cells [.int .i64 _,.int .i64 _,.int .i64 _,.int .i64 _,.int .i64 _,.int .i64 _,.int .i64 _,.int .i64 _,.int .i64 _,.int .i64 _])),(16901,some (.rr true (.int .i64) _ none))]) [] ⟨rfl,rfl,rfl,rfl,rfl,rfl,rfl,rfl,rfl,rfl,rfl,tv⟩ ⟨rfl,rfl,tv⟩ rfl ?_
      refine zd [[],[],[],[],[3,2],[4,3,2],[],[],[],[8,7,6],[9,8,7,6],[10,9,8,7,6,5,4,3,2],[11,10,9,8,7,6,5,4,3,2,1,0],[12,11,10,9,8,7,6,5,4,3,2,1,0]] [[],[],[],[],[],[1040,16901],[],[],[],[],[1045],[1040,1046],[],[1046,16901]] [[],[],[],[],[],[1040],[],[],[],[],[1045],[1046],[],[]] [[1040,1045,1046,16901],[1040,1045,1046,16901],[1045],[1045],[1045],[1045],[1040,16901],[1040,16901],[1040,16901],[1040,16901],[1040,16901],[],[],[]] (by kernel_rfl) (by kernel_rfl) ?_
      refine zj 1 rfl rfl rfl tv ?_
      refine zj 2 rfl rfl rfl tv ?_
      refine zj 3 rfl rfl rfl tv ?_
      refine zj 4 rfl rfl rfl tv ?_
      obtain ⟨g,h2⟩:=gd_t h2
      refine zj 5 rfl rfl rfl ⟨tv,tv,g.1,g.2⟩ ?_
      obtain ⟨g,h2⟩:=gd_t h2
      refine zj 6 rfl rfl rfl ⟨tv,g⟩ ?_
      refine zj 7 rfl rfl rfl ⟨tv,tv⟩ ?_
      refine zj 8 rfl rfl rfl tv ?_
      refine zj 9 rfl rfl rfl tv ?_
      obtain ⟨r161,hr,h2⟩:=bnd h2
      refine AJR_call 10 rfl (Nat.le_of_ble_eq_true rfl) [] rfl (alloc_need.ok0 hr) alloc_need.fnb rfl ⟨tv,⟨tv,⟨tv,⟨tv,tv⟩⟩⟩⟩ rfl tv rfl ?_
      refine zj 11 rfl rfl rfl ⟨tv,tv⟩ ?_
      obtain ⟨g,h2⟩:=gd_t h2
      refine zj 12 rfl rfl rfl ⟨⟨tv,tv,tv⟩,g⟩ ?_
      obtain ⟨g,h2⟩:=gd_t h2
      refine zj 13 rfl rfl rfl ⟨tv,tv,g.1,g.2⟩ ?_
      obtain ⟨g,h2⟩:=gd_t h2
      refine zj 14 rfl rfl rfl ⟨tv,tv,g,rfl⟩ ?_
      refine AJR_end rfl rfl rfl ?_
      refine tbn ?_
      refine zt ?_
      refine zv 2 rfl ⟨⟨tv,tv,tv⟩,tv,tv⟩ ?_
      refine zm ?_
      exact TE_nextr [(16900,16900),(16901,16901)] n (zs n) (_,_) h2 ⟨rfl,rfl,rfl,rfl,rfl,rfl,rfl,rfl,rfl,tv⟩ ⟨rfl,rfl,tv⟩ rfl
     ·replace h2:=bif_f h2 hb
      refine TC_exit ?_
      refine tsx ?_
      refine tsx ?_
      refine tbe ?_
      obtain rfl:=sinj h2
      refine tsn ?_
      exact SP_ren [(16700,16900),(16701,16901)] _ rfl ⟨rfl,rfl,rfl,rfl,rfl,tv⟩ ⟨rfl,rfl,tv⟩ rfl
    ·rintro x147 hz
     obtain rfl:=hz.symm
     refine tbn ?_
     refine zt ?_
     refine zv 2 rfl ⟨⟨tv,tv,tv⟩,tv,tv⟩ ?_
     refine zm ?_
     exact TE_nextr [(15000,16700),(15001,16701)] n (zs n) (_,_) h1 ⟨rfl,rfl,rfl,rfl,rfl,tv⟩ ⟨rfl,rfl,tv⟩ rfl
   ·replace h1:=bif_f h1 hb
    refine TC_exit ?_
    refine tsx ?_
    refine tsx ?_
    refine tbe ?_
    obtain rfl:=sinj h1
    refine tsn ?_
    exact SP_ren [(14000,15001)] _ rfl ⟨rfl,tv⟩ ⟨rfl,tv⟩ rfl
  ·rintro x86 hz
   obtain rfl:=hz.symm
   refine zg ?_
   refine zv 3 rfl ⟨tv,tv,tv,tv⟩ ?_
   refine ze ?_
   refine TC_ret ?_
   refine TE_frr 14000 rfl ?_
   obtain rfl:=sinj h0
   exact TE_ret env rfl tv tv
theorem alloc_Needs.ok0 {K : Nat} {p0 p1 p2 p3 p4 p5 p6 p7 p8 p9 : Int} {p10 q0 : List (List Int)} {q1 : Int} (h0 : alloc_Needs K p0 p1 p2 p3 p4 p5 p6 p7 p8 p9 p10 = some (q0,q1)) : Fn Tryz.prog 112 [.agg [.int .i64 p0,.int .i64 p1,.int .i64 p2,.int .i64 p3,.int .i64 p4,.int .i64 p5,.int .i64 p6,.int .i64 p7,.int .i64 p8,.int .i64 p9],.im (.slice (.slice (.int .i64))) p10] [] (.tup [.im (.slice (.slice (.int .i64))) q0,.int .i64 q1]) []:=alloc_Needs.ok h0
theorem alloc_Needs.fnb : fnb Tryz.prog 112 = true:=fnb_of Tryz.func112 rfl
def alloc_sharing_cut_1.res (_p0 : Int) (_p1 : Nat) (_p2 : List Int) (_p3 _p4 _p5 : Int) (_p6 _p7 : List (List Int)) (_p8 : Nat) : Int × (List (List Int)) → MV
 | (_,_)=>.bool true
def alloc_sharing_cut_1.out (_p0 : Int) (_p1 : Nat) (_p2 : List Int) (p3 _p4 p5 : Int) (p6 _p7 : List (List Int)) (_p8 : Nat) : Int × (List (List Int)) → List (Nat × Option MObj)
 | (q0,q1)=>[(0,none),(1,some (.cells [.p 2 0])),(2,some (.cells [.int .i64 p3,.int .i64 q0,.int .i64 p5,.im (.slice (.slice (.int .i64))) p6,.sl 3])),(3,some (.rr true (.int .i64) q1 none))]
theorem alloc_sharing_cut_1.ok {K : Nat} {p0 : Int} {p1 : Nat} {p2 : List Int} {p3 p4 p5 : Int} {p6 p7 : List (List Int)} {p8 : Nat} {r : Int × (List (List Int))} (h0 : alloc_sharing_cut_1 K p0 p1 p2 p3 p4 p5 p6 p7 p8 = some r) : Fn Tryz.prog 164 [.int .i64 p0,.pe 0 p1 0,.p 1 0] [(0,some (.rows (.int .i64) p2)),(1,some (.cells [.p 2 0])),(2,some (.cells [.int .i64 p3,.int .i64 p4,.int .i64 p5,.im (.slice (.slice (.int .i64))) p6,.sl 3])),(3,some (.rr true (.int .i64) p7 (some (p8,.sl 0))))] (alloc_sharing_cut_1.res p0 p1 p2 p3 p4 p5 p6 p7 p8 r) (alloc_sharing_cut_1.out p0 p1 p2 p3 p4 p5 p6 p7 p8 r):=by
 refine Fn_of Tryz.func164 rfl (Nat.le_of_ble_eq_true rfl) fun Γ=>?_
 refine zr ?_
 refine zv 1 rfl ⟨tv,tv⟩ ?_
 refine ze ?_
 refine TC_seq ?_
 refine TC_renw (A':=[(0,.int .i64 _),(2,.p 1 0)]) (L':=[(0,some (.rows (.int .i64) _)),(1,some (.cells [.p 2 0])),(2,some (.cells [.int .i64 _,.int .i64 _,.int .i64 _,.im (.slice (.slice (.int .i64))) _,.sl 3])),(3,some (.rr true (.int .i64) _ (some (_,.sl 0))))]) [] ⟨rfl,rfl,tv⟩ ⟨rfl,rfl,rfl,rfl,tv⟩ rfl ?_
 refine zd [[],[],[1],[2,1],[3,2,1],[],[5,4,3,2,1],[6,5,4,3,2,1,0],[7,6,5,4,3,2,1,0],[8,7,6,5,4,3,2,1,0]] [[],[],[],[],[],[],[],[],[],[2]] [[],[],[],[],[],[],[],[],[],[]] [[],[],[],[],[],[],[],[],[],[]] (by kernel_rfl) (by kernel_rfl) ?_
 refine zj 1 rfl rfl rfl ⟨tv,tv⟩ ?_
 refine zj 2 rfl rfl rfl ⟨tv,tv⟩ ?_
 refine zj 3 rfl rfl rfl tv ?_
 refine zj 4 rfl rfl rfl tv ?_
 refine zj 5 rfl rfl rfl ⟨tv,tv⟩ ?_
 refine zj 6 rfl rfl rfl tv ?_
 refine zj 7 rfl rfl rfl ⟨tv,tv,tv⟩ ?_
 refine zj 8 rfl rfl rfl tv ?_
 refine zj 9 rfl rfl rfl tv ?_
 refine zj 10 rfl rfl rfl ⟨tv,tv⟩ ?_
 refine AJR_end rfl rfl rfl ?_
 refine zg ?_
 refine zv 1 rfl ⟨tv,tv⟩ ?_
 refine ze ?_
 refine TC_ret ?_
 refine TE_putb 3 0 rfl rfl ?_
 obtain rfl:=sinj h0
 exact TE_ret env rfl tv ⟨.inl rfl,.inr rfl,.inr rfl,.inr rfl,tv⟩
theorem alloc_sharing_cut_1.ok0 {K : Nat} {p0 : Int} {p1 : Nat} {p2 : List Int} {p3 p4 p5 : Int} {p6 p7 : List (List Int)} {p8 : Nat} {q0 : Int} {q1 : List (List Int)} (h0 : alloc_sharing_cut_1 K p0 p1 p2 p3 p4 p5 p6 p7 p8 = some (q0,q1)) : Fn Tryz.prog 164 [.int .i64 p0,.pe 0 p1 0,.p 1 0] [(0,some (.rows (.int .i64) p2)),(1,some (.cells [.p 2 0])),(2,some (.cells [.int .i64 p3,.int .i64 p4,.int .i64 p5,.im (.slice (.slice (.int .i64))) p6,.sl 3])),(3,some (.rr true (.int .i64) p7 (some (p8,.sl 0))))] (.bool true) [(0,none),(1,some (.cells [.p 2 0])),(2,some (.cells [.int .i64 p3,.int .i64 q0,.int .i64 p5,.im (.slice (.slice (.int .i64))) p6,.sl 3])),(3,some (.rr true (.int .i64) q1 none))]:=alloc_sharing_cut_1.ok h0
theorem alloc_sharing_cut_1.fnb : fnb Tryz.prog 164 = true:=fnb_of Tryz.func164 rfl
end Go.Fo
