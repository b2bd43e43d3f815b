/- Each call comes to the function that is written for it. -/
import Derived.Test.YtcaehpgdcjonfaaAsT
import Derived.Test.YtcaehpgdcjonfaaAsF
import Derived.Test.YtcaehpgdcjonfaaAsP0
namespace Go.Fo
open Go.Proofs
set_option maxRecDepth 20000
set_option maxHeartbeats 4000000
def alloc_Share_1_2.res (_p0 : Int) (_p1 : Nat) (_p2 : List (Int)) (_p3 : Int) (_p4 : Int) (_p5 : Int) (_p6 : List (List (Int))) (_p7 : List (Int)) : (List (Int)) → MV
  | _ => .bool true
def alloc_Share_1_2.out (_p0 : Int) (_p1 : Nat) (_p2 : List (Int)) (p3 : Int) (p4 : Int) (p5 : Int) (p6 : List (List (Int))) (p7 : List (Int)) : (List (Int)) → List (Nat × Option MObj)
  | q0 => [(0, some (.rows (.int .i64) q0)), (1, some (.cells [.p 2 0])), (2, some (.cells [.int .i64 p3, .int .i64 p4, .int .i64 p5, .im (.slice (.slice (.int .i64))) p6, .hd 3 2])), (3, some (.cells [.sl 0, .sl 4])), (4, some (.rows (.int .i64) p7))]
theorem alloc_Share_1_2.ok {K : Nat} {p0 : Int} {p1 : Nat} {p2 : List (Int)} {p3 : Int} {p4 : Int} {p5 : Int} {p6 : List (List (Int))} {p7 : List (Int)} {r : (List (Int))} (h0 : alloc_Share_1_2 K p0 p1 p2 p3 p4 p5 p6 p7 = some r) : Fn Try.prog 105 [.int .i64 p0, .pe 0 p1 0, .p 1 0] [(0, some (.rows (.int .i64) p2)), (1, some (.cells [.p 2 0])), (2, some (.cells [.int .i64 p3, .int .i64 p4, .int .i64 p5, .im (.slice (.slice (.int .i64))) p6, .hd 3 2])), (3, some (.cells [.sl 0, .sl 4])), (4, some (.rows (.int .i64) p7))] (alloc_Share_1_2.res p0 p1 p2 p3 p4 p5 p6 p7 r) (alloc_Share_1_2.out p0 p1 p2 p3 p4 p5 p6 p7 r) := by
  refine Fn_of Try.func105 rfl (Nat.le_of_ble_eq_true rfl) fun Γ => ?_
  refine TC_seq ?_
  refine TC_reg ?_
  refine TL_ev env 1 rfl ⟨tv, tv⟩ ?_
  refine TL_end ?_
  refine TE_go ?_
  refine TC_seq ?_
  refine TC_seq ?_
  refine TC_reg ?_
  refine TL_ev env 7 rfl ⟨tv, ⟨⟨tv, tv⟩, ⟨tv, ⟨tv, ⟨⟨tv, tv⟩, ⟨⟨tv, ⟨tv, tv⟩⟩, ⟨⟨tv, ⟨tv, tv⟩⟩, tv⟩⟩⟩⟩⟩⟩⟩ ?_
  refine TL_end ?_
  refine TE_go ?_
  obtain ⟨z1, h1, h0⟩ := bnd h0
  refine TC_cut (α := (List (Int))) (fun s => z1 = s) (fun s => []) (fun s => [(0, some (.rows (.int .i64) s)), (1, some (.cells [.p 2 0])), (2, some (.cells [.int .i64 p3, .int .i64 p4, .int .i64 p5, .im (.slice (.slice (.int .i64))) p6, .hd 3 2])), (3, some (.cells [.sl 0, .sl 4])), (4, some (.rows (.int .i64) p7))]) ?_ ?_
  · refine TC_cond rfl (fun hb => ?_) (fun hb => ?_)
    · replace h1 := bif_t h1 hb
      refine TC_reg ?_
      obtain ⟨g, h1⟩ := gd_t h1
      refine TL_ev env 10 rfl ⟨tv, ⟨tv, ⟨⟨tv, tv⟩, ⟨tv, ⟨tv, ⟨⟨tv, tv⟩, ⟨⟨tv, ⟨tv, tv⟩⟩, ⟨⟨tv, ⟨tv, tv⟩⟩, ⟨tv, ⟨⟨tv, ⟨tv, g⟩⟩, tv⟩⟩⟩⟩⟩⟩⟩⟩⟩⟩ ?_
      refine TL_end ?_
      obtain rfl := sinj h1
      refine tsn ?_
      exact SP_ren [] _ rfl tv ⟨rfl, rfl, rfl, rfl, rfl, tv⟩ rfl
    · replace h1 := bif_f h1 hb
      refine TC_skip ?_
      obtain rfl := sinj h1
      refine tsn ?_
      exact SP_ren [] _ rfl tv ⟨rfl, rfl, rfl, rfl, rfl, tv⟩ rfl
  · rintro x4 hz
    obtain rfl := hz.symm
    refine TE_go ?_
    refine TC_seq ?_
    refine TC_reg ?_
    refine TL_ev env 1 rfl ⟨tv, tv⟩ ?_
    refine TL_end ?_
    refine TE_go ?_
    refine TC_ret ?_
    obtain rfl := sinj h0
    exact TE_ret env rfl tv ⟨.inr rfl, .inr rfl, .inr rfl, .inr rfl, .inr rfl, tv⟩
theorem alloc_Share_1_2.ok0 {K : Nat} {p0 : Int} {p1 : Nat} {p2 : List (Int)} {p3 : Int} {p4 : Int} {p5 : Int} {p6 : List (List (Int))} {p7 : List (Int)} {q0 : List (Int)} (h0 : alloc_Share_1_2 K p0 p1 p2 p3 p4 p5 p6 p7 = some q0) : Fn Try.prog 105 [.int .i64 p0, .pe 0 p1 0, .p 1 0] [(0, some (.rows (.int .i64) p2)), (1, some (.cells [.p 2 0])), (2, some (.cells [.int .i64 p3, .int .i64 p4, .int .i64 p5, .im (.slice (.slice (.int .i64))) p6, .hd 3 2])), (3, some (.cells [.sl 0, .sl 4])), (4, some (.rows (.int .i64) p7))] (.bool true) [(0, some (.rows (.int .i64) q0)), (1, some (.cells [.p 2 0])), (2, some (.cells [.int .i64 p3, .int .i64 p4, .int .i64 p5, .im (.slice (.slice (.int .i64))) p6, .hd 3 2])), (3, some (.cells [.sl 0, .sl 4])), (4, some (.rows (.int .i64) p7))] := alloc_Share_1_2.ok h0
theorem alloc_Share_1_2.fnb : fnb Try.prog 105 = true := fnb_of Try.func105 rfl
def alloc_Share_1_3.res (_p0 : Int) (_p1 : Nat) (_p2 : List (Int)) (_p3 : Int) (_p4 : Int) (_p5 : Int) (_p6 : List (List (Int))) (_p7 : List (Int)) : (List (Int)) → MV
  | _ => .bool true
def alloc_Share_1_3.out (_p0 : Int) (_p1 : Nat) (_p2 : List (Int)) (p3 : Int) (p4 : Int) (p5 : Int) (p6 : List (List (Int))) (p7 : List (Int)) : (List (Int)) → List (Nat × Option MObj)
  | q0 => [(0, some (.rows (.int .i64) q0)), (1, some (.cells [.p 2 0])), (2, some (.cells [.int .i64 p3, .int .i64 p4, .int .i64 p5, .im (.slice (.slice (.int .i64))) p6, .hd 3 2])), (3, some (.cells [.sl 4, .sl 0])), (4, some (.rows (.int .i64) p7))]
theorem alloc_Share_1_3.ok {K : Nat} {p0 : Int} {p1 : Nat} {p2 : List (Int)} {p3 : Int} {p4 : Int} {p5 : Int} {p6 : List (List (Int))} {p7 : List (Int)} {r : (List (Int))} (h0 : alloc_Share_1_3 K p0 p1 p2 p3 p4 p5 p6 p7 = some r) : Fn Try.prog 105 [.int .i64 p0, .pe 0 p1 0, .p 1 0] [(0, some (.rows (.int .i64) p2)), (1, some (.cells [.p 2 0])), (2, some (.cells [.int .i64 p3, .int .i64 p4, .int .i64 p5, .im (.slice (.slice (.int .i64))) p6, .hd 3 2])), (3, some (.cells [.sl 4, .sl 0])), (4, some (.rows (.int .i64) p7))] (alloc_Share_1_3.res p0 p1 p2 p3 p4 p5 p6 p7 r) (alloc_Share_1_3.out p0 p1 p2 p3 p4 p5 p6 p7 r) := by
  refine Fn_of Try.func105 rfl (Nat.le_of_ble_eq_true rfl) fun Γ => ?_
  refine TC_seq ?_
  refine TC_reg ?_
  refine TL_ev env 1 rfl ⟨tv, tv⟩ ?_
  refine TL_end ?_
  refine TE_go ?_
  refine TC_seq ?_
  refine TC_seq ?_
  refine TC_reg ?_
  refine TL_ev env 7 rfl ⟨tv, ⟨⟨tv, tv⟩, ⟨tv, ⟨tv, ⟨⟨tv, tv⟩, ⟨⟨tv, ⟨tv, tv⟩⟩, ⟨⟨tv, ⟨tv, tv⟩⟩, tv⟩⟩⟩⟩⟩⟩⟩ ?_
  refine TL_end ?_
  refine TE_go ?_
  obtain ⟨z1, h1, h0⟩ := bnd h0
  refine TC_cut (α := (List (Int))) (fun s => z1 = s) (fun s => []) (fun s => [(0, some (.rows (.int .i64) s)), (1, some (.cells [.p 2 0])), (2, some (.cells [.int .i64 p3, .int .i64 p4, .int .i64 p5, .im (.slice (.slice (.int .i64))) p6, .hd 3 2])), (3, some (.cells [.sl 4, .sl 0])), (4, some (.rows (.int .i64) p7))]) ?_ ?_
  · refine TC_cond rfl (fun hb => ?_) (fun hb => ?_)
    · replace h1 := bif_t h1 hb
      refine TC_reg ?_
      obtain ⟨g, h1⟩ := gd_t h1
      refine TL_ev env 10 rfl ⟨tv, ⟨tv, ⟨⟨tv, tv⟩, ⟨tv, ⟨tv, ⟨⟨tv, tv⟩, ⟨⟨tv, ⟨tv, tv⟩⟩, ⟨⟨tv, ⟨tv, tv⟩⟩, ⟨tv, ⟨⟨tv, ⟨tv, g⟩⟩, tv⟩⟩⟩⟩⟩⟩⟩⟩⟩⟩ ?_
      refine TL_end ?_
      obtain rfl := sinj h1
      refine tsn ?_
      exact SP_ren [] _ rfl tv ⟨rfl, rfl, rfl, rfl, rfl, tv⟩ rfl
    · replace h1 := bif_f h1 hb
      refine TC_skip ?_
      obtain rfl := sinj h1
      refine tsn ?_
      exact SP_ren [] _ rfl tv ⟨rfl, rfl, rfl, rfl, rfl, tv⟩ rfl
  · rintro x4 hz
    obtain rfl := hz.symm
    refine TE_go ?_
    refine TC_seq ?_
    refine TC_reg ?_
    refine TL_ev env 1 rfl ⟨tv, tv⟩ ?_
    refine TL_end ?_
    refine TE_go ?_
    refine TC_ret ?_
    obtain rfl := sinj h0
    exact TE_ret env rfl tv ⟨.inr rfl, .inr rfl, .inr rfl, .inr rfl, .inr rfl, tv⟩
theorem alloc_Share_1_3.ok0 {K : Nat} {p0 : Int} {p1 : Nat} {p2 : List (Int)} {p3 : Int} {p4 : Int} {p5 : Int} {p6 : List (List (Int))} {p7 : List (Int)} {q0 : List (Int)} (h0 : alloc_Share_1_3 K p0 p1 p2 p3 p4 p5 p6 p7 = some q0) : Fn Try.prog 105 [.int .i64 p0, .pe 0 p1 0, .p 1 0] [(0, some (.rows (.int .i64) p2)), (1, some (.cells [.p 2 0])), (2, some (.cells [.int .i64 p3, .int .i64 p4, .int .i64 p5, .im (.slice (.slice (.int .i64))) p6, .hd 3 2])), (3, some (.cells [.sl 4, .sl 0])), (4, some (.rows (.int .i64) p7))] (.bool true) [(0, some (.rows (.int .i64) q0)), (1, some (.cells [.p 2 0])), (2, some (.cells [.int .i64 p3, .int .i64 p4, .int .i64 p5, .im (.slice (.slice (.int .i64))) p6, .hd 3 2])), (3, some (.cells [.sl 4, .sl 0])), (4, some (.rows (.int .i64) p7))] := alloc_Share_1_3.ok h0
theorem alloc_Share_1_3.fnb : fnb Try.prog 105 = true := fnb_of Try.func105 rfl
def alloc_sharing_each_7.res (_p0 : Int) (_p1 : Int) (_p2 : Int) (_p3 : List (List (Int))) (_p4 : List (Int)) (_p5 : List (Int)) : (List (Int)) × (List (Int)) → MV
  | (_, _) => .tup []
def alloc_sharing_each_7.out (p0 : Int) (p1 : Int) (p2 : Int) (p3 : List (List (Int))) (_p4 : List (Int)) (_p5 : List (Int)) : (List (Int)) × (List (Int)) → List (Nat × Option MObj)
  | (q0, q1) => [(0, some (.cells [.int .i64 p0, .int .i64 p1, .int .i64 p2, .im (.slice (.slice (.int .i64))) p3, .hd 2 2])), (1, some (.cells [.p 0 0])), (2, some (.cells [.sl 3, .sl 4])), (3, some (.rows (.int .i64) q0)), (4, some (.rows (.int .i64) q1))]
theorem alloc_sharing_each_7.ok {K : Nat} {p0 : Int} {p1 : Int} {p2 : Int} {p3 : List (List (Int))} {p4 : List (Int)} {p5 : List (Int)} {r : (List (Int)) × (List (Int))} (h0 : alloc_sharing_each_7 K p0 p1 p2 p3 p4 p5 = some r) : Fn Try.prog 104 [.p 0 0, .fn 105 [.p 1 0]] [(0, some (.cells [.int .i64 p0, .int .i64 p1, .int .i64 p2, .im (.slice (.slice (.int .i64))) p3, .hd 2 2])), (1, some (.cells [.p 0 0])), (2, some (.cells [.sl 3, .sl 4])), (3, some (.rows (.int .i64) p4)), (4, some (.rows (.int .i64) p5))] (alloc_sharing_each_7.res p0 p1 p2 p3 p4 p5 r) (alloc_sharing_each_7.out p0 p1 p2 p3 p4 p5 r) := by
  refine Fn_of Try.func104 rfl (Nat.le_of_ble_eq_true rfl) fun Γ => ?_
  refine TC_seq ?_
  refine TC_reg ?_
  obtain ⟨g, h0⟩ := gd_t h0
  refine TL_ev env 8 rfl ⟨tv, ⟨tv, ⟨tv, ⟨⟨tv, tv⟩, ⟨⟨tv, ⟨tv, ⟨(by decide), g⟩⟩⟩, ⟨⟨tv, tv⟩, ⟨⟨tv, tv⟩, ⟨tv, tv⟩⟩⟩⟩⟩⟩⟩⟩ ?_
  refine TL_end ?_
  refine TE_go ?_
  obtain ⟨z1, h1, h0⟩ := bnd h0
  refine TC_cut (α := (List (Int)) × (List (Int))) (fun s => z1 = s) (fun s => []) (fun s => [(0, some (.cells [.int .i64 p0, .int .i64 p1, .int .i64 p2, .im (.slice (.slice (.int .i64))) p3, .hd 2 2])), (1, some (.cells [.p 0 0])), (2, some (.cells [.sl 3, .sl 4])), (3, some (.rows (.int .i64) s.1)), (4, some (.rows (.int .i64) s.2))]) ?_ ?_
  · refine TC_blk ?_
    refine TC_loop (α := Int × (List (Int)) × (List (Int))) (fun n s => alloc_sharing_each_7.l0 K ((Kd.nth (.slice (.int .i64)) p3 0).length : Int) p0 p1 p2 p3 n s.1 s.2.1 s.2.2 = some z1) (fun s => [(0, .p 0 0), (1, .fn 105 [.p 1 0]), (12, .int .i64 ((Kd.nth (.slice (.int .i64)) p3 0).length : Int)), (13, .int .i64 s.1)]) (fun s => [(0, some (.cells [.int .i64 p0, .int .i64 p1, .int .i64 p2, .im (.slice (.slice (.int .i64))) p3, .hd 2 2])), (1, some (.cells [.p 0 0])), (2, some (.cells [.sl 3, .sl 4])), (3, some (.rows (.int .i64) s.2.1)), (4, some (.rows (.int .i64) s.2.2))]) K ?_ ?_
    · exact SP_ren [] (_, _, _) h1 ⟨rfl, rfl, rfl, rfl, tv⟩ ⟨rfl, rfl, rfl, rfl, rfl, tv⟩ rfl
    rintro n ⟨x239, x240, x241⟩ h1
    rcases n with _ | n
    · exact (nsome h1).elim
    replace h1 : alloc_sharing_each_7.r0 K ((Kd.nth (.slice (.int .i64)) p3 0).length : Int) p0 p1 p2 p3 (alloc_sharing_each_7.l0 K ((Kd.nth (.slice (.int .i64)) p3 0).length : Int) p0 p1 p2 p3 n) x239 x240 x241 = some z1 := h1
    refine TC_seq ?_
    refine TC_reg ?_
    refine TL_ev env 1 rfl ⟨⟨tv, ⟨tv, tv⟩⟩, tv⟩ ?_
    refine TL_end ?_
    refine TE_go ?_
    refine TC_seq ?_
    refine TC_cond rfl (fun hb => ?_) (fun hb => ?_)
    · replace h1 := bif_t h1 hb
      refine TC_skip ?_
      refine TE_go ?_
      refine TC_seq ?_
      refine TC_blk ?_
      refine TC_seq ?_
      refine TC_reg ?_
      refine TL_ev env 2 rfl ⟨tv, ⟨tv, tv⟩⟩ ?_
      refine TL_end ?_
      refine TE_go ?_
      refine TC_seq ?_
      refine TC_reg ?_
      refine TL_ev env 6 rfl ⟨tv, ⟨tv, ⟨tv, ⟨⟨tv, tv⟩, ⟨⟨tv, tv⟩, ⟨tv, tv⟩⟩⟩⟩⟩⟩ ?_
      refine TL_end ?_
      refine TE_go ?_
      obtain ⟨z2, h2, h1⟩ := bnd h1
      refine TC_cut (α := (List (Int)) × (List (Int))) (fun s => z2 = s) (fun s => [(0, .p 0 0), (1, .fn 105 [.p 1 0]), (12, .int .i64 ((Kd.nth (.slice (.int .i64)) p3 0).length : Int)), (13, .int .i64 x239)]) (fun s => [(0, some (.cells [.int .i64 p0, .int .i64 p1, .int .i64 p2, .im (.slice (.slice (.int .i64))) p3, .hd 2 2])), (1, some (.cells [.p 0 0])), (2, some (.cells [.sl 3, .sl 4])), (3, some (.rows (.int .i64) s.1)), (4, some (.rows (.int .i64) s.2))]) ?_ ?_
      · refine TC_blk ?_
        refine TC_loop (α := Int × (List (Int)) × (List (Int))) (fun n s => alloc_sharing_each_7.l1 K x239 ((Kd.nth (.slice (.int .i64)) p3 0).length : Int) (p3.length : Int) p0 p1 p2 p3 n s.1 s.2.1 s.2.2 = some z2) (fun s => [(0, .p 0 0), (1, .fn 105 [.p 1 0]), (4, .int .i64 x239), (12, .int .i64 ((Kd.nth (.slice (.int .i64)) p3 0).length : Int)), (13, .int .i64 x239), (20, .int .i64 (p3.length : Int)), (21, .int .i64 s.1)]) (fun s => [(0, some (.cells [.int .i64 p0, .int .i64 p1, .int .i64 p2, .im (.slice (.slice (.int .i64))) p3, .hd 2 2])), (1, some (.cells [.p 0 0])), (2, some (.cells [.sl 3, .sl 4])), (3, some (.rows (.int .i64) s.2.1)), (4, some (.rows (.int .i64) s.2.2))]) K ?_ ?_
        · exact SP_ren [] (_, _, _) h2 ⟨rfl, rfl, rfl, rfl, rfl, rfl, rfl, tv⟩ ⟨rfl, rfl, rfl, rfl, rfl, tv⟩ rfl
        rintro n ⟨x344, x345, x346⟩ h2
        rcases n with _ | n
        · exact (nsome h2).elim
        replace h2 : alloc_sharing_each_7.r1 K x239 ((Kd.nth (.slice (.int .i64)) p3 0).length : Int) (p3.length : Int) p0 p1 p2 p3 (alloc_sharing_each_7.l1 K x239 ((Kd.nth (.slice (.int .i64)) p3 0).length : Int) (p3.length : Int) p0 p1 p2 p3 n) x344 x345 x346 = some z2 := h2
        refine TC_seq ?_
        refine TC_reg ?_
        refine TL_ev env 1 rfl ⟨⟨tv, ⟨tv, tv⟩⟩, tv⟩ ?_
        refine TL_end ?_
        refine TE_go ?_
        refine TC_seq ?_
        refine TC_cond rfl (fun hb => ?_) (fun hb => ?_)
        · replace h2 := bif_t h2 hb
          refine TC_skip ?_
          refine TE_go ?_
          refine TC_seq ?_
          obtain ⟨z3, h3, h2⟩ := bnd h2
          refine TC_cut (α := Int × (List (Int)) × (List (Int))) (fun s => z3 = s) (fun s => [(0, .p 0 0), (1, .fn 105 [.p 1 0]), (4, .int .i64 x239), (12, .int .i64 ((Kd.nth (.slice (.int .i64)) p3 0).length : Int)), (13, .int .i64 x239), (20, .int .i64 (p3.length : Int)), (21, .int .i64 s.1)]) (fun s => [(0, some (.cells [.int .i64 p0, .int .i64 p1, .int .i64 p2, .im (.slice (.slice (.int .i64))) p3, .hd 2 2])), (1, some (.cells [.p 0 0])), (2, some (.cells [.sl 3, .sl 4])), (3, some (.rows (.int .i64) s.2.1)), (4, some (.rows (.int .i64) s.2.2))]) ?_ ?_
          · refine TC_blk ?_
            refine TC_seq ?_
            refine TC_reg ?_
            refine TL_ev env 2 rfl ⟨tv, ⟨tv, tv⟩⟩ ?_
            refine TL_end ?_
            refine TE_go ?_
            refine TC_seq ?_
            refine nums h3 (fun hx h3 => ?_) (fun h3 => ?_)
            · refine TC_num 21 0 hx rfl ?_
              refine TC_num 23 0 hx rfl ?_
              refine TC_num 5 0 hx rfl ?_
              refine TC_renw (A' := [(0, .p 0 0), (1, .fn 105 [.p 1 0]), (4, .int .i64 _), (5, .int .i64 0), (12, .int .i64 _), (13, .int .i64 _), (20, .int .i64 _), (21, .int .i64 0)]) (L' := [(0, some (.cells [.int .i64 _, .int .i64 _, .int .i64 _, .im (.slice (.slice (.int .i64))) _, .hd 2 2])), (1, some (.cells [.p 0 0])), (2, some (.cells [.sl 3, .sl 4])), (3, some (.rows (.int .i64) _)), (4, some (.rows (.int .i64) _))]) [] ⟨rfl, rfl, rfl, rfl, rfl, rfl, rfl, rfl, tv⟩ ⟨rfl, rfl, rfl, rfl, rfl, tv⟩ rfl ?_
              refine TC_drawR ⟨_, fun i => ([[], [], [1], [2, 1], [3, 2, 1], [], [5, 4, 3, 2, 1], [6, 5, 4, 3, 2, 1], [], [8, 7, 6, 5, 4, 3, 2, 1], [9, 8, 7, 6, 5, 4, 3, 2, 1], [], [11], [12, 11], [13, 12, 11], [], [15, 14, 13, 12, 11], [16, 15, 14, 13, 12, 11], [], [18, 17, 16, 15, 14, 13, 12, 11], [19, 18, 17, 16, 15, 14, 13, 12, 11, 10, 9, 8, 7, 6, 5, 4, 3, 2, 1, 0], [20, 19, 18, 17, 16, 15, 14, 13, 12, 11, 10, 9, 8, 7, 6, 5, 4, 3, 2, 1, 0]] : List (List Nat)).getD i [], fun i => ([[], [], [], [], [], [], [], [], [], [], [], [], [], [], [], [], [], [], [], [], [0, 1, 2, 3, 4], []] : List (List Nat)).getD i [], fun i => ([[], [], [], [], [], [], [], [], [], [], [], [], [], [], [], [], [], [], [], [], [], []] : List (List Nat)).getD i []⟩ (fun i => ([[], [], [], [], [], [], [], [], [], [], [], [], [], [], [], [], [], [], [], [], [], []] : List (List Nat)).getD i []) (by kernel_rfl) (by kernel_rfl) ?_
              refine AJR_ev env 1 rfl (Nat.le_of_ble_eq_true rfl) rfl tv ?_
              refine AJR_ev env 2 rfl (Nat.le_of_ble_eq_true rfl) rfl tv ?_
              refine AJR_ev env 3 rfl (Nat.le_of_ble_eq_true rfl) rfl tv ?_
              refine AJR_ev env 4 rfl (Nat.le_of_ble_eq_true rfl) rfl tv ?_
              refine AJR_ev env 5 rfl (Nat.le_of_ble_eq_true rfl) rfl ⟨tv, tv⟩ ?_
              refine AJR_ev env 6 rfl (Nat.le_of_ble_eq_true rfl) rfl tv ?_
              obtain ⟨g, h3⟩ := gd_t h3
              refine AJR_ev env 7 rfl (Nat.le_of_ble_eq_true rfl) rfl ⟨tv, ⟨tv, ⟨(by decide), g⟩⟩⟩ ?_
              refine AJR_ev env 8 rfl (Nat.le_of_ble_eq_true rfl) rfl ⟨tv, tv⟩ ?_
              refine AJR_ev env 9 rfl (Nat.le_of_ble_eq_true rfl) rfl tv ?_
              obtain ⟨g, h3⟩ := gd_t h3
              refine AJR_ev env 10 rfl (Nat.le_of_ble_eq_true rfl) rfl ⟨tv, ⟨tv, ⟨g.1, g.2⟩⟩⟩ ?_
              refine AJR_ev env 11 rfl (Nat.le_of_ble_eq_true rfl) rfl ⟨tv, tv⟩ ?_
              refine AJR_ev env 12 rfl (Nat.le_of_ble_eq_true rfl) rfl tv ?_
              refine AJR_ev env 13 rfl (Nat.le_of_ble_eq_true rfl) rfl tv ?_
              refine AJR_ev env 14 rfl (Nat.le_of_ble_eq_true rfl) rfl tv ?_
              refine AJR_ev env 15 rfl (Nat.le_of_ble_eq_true rfl) rfl ⟨tv, tv⟩ ?_
              refine AJR_ev env 16 rfl (Nat.le_of_ble_eq_true rfl) rfl tv ?_
              refine AJR_ev env 17 rfl (Nat.le_of_ble_eq_true rfl) rfl ⟨tv, ⟨tv, ⟨(by decide), (by decide)⟩⟩⟩ ?_
              refine AJR_ev env 18 rfl (Nat.le_of_ble_eq_true rfl) rfl ⟨tv, tv⟩ ?_
              refine AJR_ev env 19 rfl (Nat.le_of_ble_eq_true rfl) rfl tv ?_
              obtain ⟨g, h3⟩ := gd_t h3
              refine AJR_ev env 20 rfl (Nat.le_of_ble_eq_true rfl) rfl ⟨tv, ⟨tv, ⟨g.1, g.2⟩⟩⟩ ?_
              obtain ⟨r364, hr, h3⟩ := bnd h3
              refine AJR_call 21 rfl (Nat.le_of_ble_eq_true rfl) [(0, 3), (1, 1), (2, 0), (3, 2), (4, 4)] rfl (alloc_Share_1_2.ok0 hr) alloc_Share_1_2.fnb rfl ⟨tv, ⟨tv, ⟨tv, tv⟩⟩⟩ rfl ⟨.inr rfl, .inr rfl, .inr rfl, .inr rfl, .inr rfl, tv⟩ rfl ?_
              refine AJR_ev env 22 rfl (Nat.le_of_ble_eq_true rfl) rfl tv ?_
              refine AJR_end rfl rfl rfl ?_
              refine TE_go ?_
              refine TC_cond rfl (fun hb => ?_) (fun hb => ?_)
              · first | exact (ftf hb).elim | exact (tff hb).elim | exact absurd hb (by decide)
              · refine TC_skip ?_
                refine tbn ?_
                obtain rfl := sinj h3
                refine tsn ?_
                exact SP_ren [] (_, _, _) rfl ⟨rfl, rfl, rfl, rfl, rfl, rfl, rfl, tv⟩ ⟨rfl, rfl, rfl, rfl, rfl, tv⟩ rfl
            · refine nums h3 (fun hx h3 => ?_) (fun h3 => ?_)
              · refine TC_num 21 1 hx rfl ?_
                refine TC_num 23 1 hx rfl ?_
                refine TC_num 5 1 hx rfl ?_
                refine TC_renw (A' := [(0, .p 0 0), (1, .fn 105 [.p 1 0]), (4, .int .i64 _), (5, .int .i64 1), (12, .int .i64 _), (13, .int .i64 _), (20, .int .i64 _), (21, .int .i64 1)]) (L' := [(0, some (.cells [.int .i64 _, .int .i64 _, .int .i64 _, .im (.slice (.slice (.int .i64))) _, .hd 2 2])), (1, some (.cells [.p 0 0])), (2, some (.cells [.sl 3, .sl 4])), (3, some (.rows (.int .i64) _)), (4, some (.rows (.int .i64) _))]) [] ⟨rfl, rfl, rfl, rfl, rfl, rfl, rfl, rfl, tv⟩ ⟨rfl, rfl, rfl, rfl, rfl, tv⟩ rfl ?_
                refine TC_drawR ⟨_, fun i => ([[], [], [1], [2, 1], [3, 2, 1], [], [5, 4, 3, 2, 1], [6, 5, 4, 3, 2, 1], [], [8, 7, 6, 5, 4, 3, 2, 1], [9, 8, 7, 6, 5, 4, 3, 2, 1], [], [11], [12, 11], [13, 12, 11], [], [15, 14, 13, 12, 11], [16, 15, 14, 13, 12, 11], [], [18, 17, 16, 15, 14, 13, 12, 11], [19, 18, 17, 16, 15, 14, 13, 12, 11, 10, 9, 8, 7, 6, 5, 4, 3, 2, 1, 0], [20, 19, 18, 17, 16, 15, 14, 13, 12, 11, 10, 9, 8, 7, 6, 5, 4, 3, 2, 1, 0]] : List (List Nat)).getD i [], fun i => ([[], [], [], [], [], [], [], [], [], [], [], [], [], [], [], [], [], [], [], [], [0, 1, 2, 3, 4], []] : List (List Nat)).getD i [], fun i => ([[], [], [], [], [], [], [], [], [], [], [], [], [], [], [], [], [], [], [], [], [], []] : List (List Nat)).getD i []⟩ (fun i => ([[], [], [], [], [], [], [], [], [], [], [], [], [], [], [], [], [], [], [], [], [], []] : List (List Nat)).getD i []) (by kernel_rfl) (by kernel_rfl) ?_
                refine AJR_ev env 1 rfl (Nat.le_of_ble_eq_true rfl) rfl tv ?_
                refine AJR_ev env 2 rfl (Nat.le_of_ble_eq_true rfl) rfl tv ?_
                refine AJR_ev env 3 rfl (Nat.le_of_ble_eq_true rfl) rfl tv ?_
                refine AJR_ev env 4 rfl (Nat.le_of_ble_eq_true rfl) rfl tv ?_
                refine AJR_ev env 5 rfl (Nat.le_of_ble_eq_true rfl) rfl ⟨tv, tv⟩ ?_
                refine AJR_ev env 6 rfl (Nat.le_of_ble_eq_true rfl) rfl tv ?_
                obtain ⟨g, h3⟩ := gd_t h3
                refine AJR_ev env 7 rfl (Nat.le_of_ble_eq_true rfl) rfl ⟨tv, ⟨tv, ⟨(by decide), g⟩⟩⟩ ?_
                refine AJR_ev env 8 rfl (Nat.le_of_ble_eq_true rfl) rfl ⟨tv, tv⟩ ?_
                refine AJR_ev env 9 rfl (Nat.le_of_ble_eq_true rfl) rfl tv ?_
                obtain ⟨g, h3⟩ := gd_t h3
                refine AJR_ev env 10 rfl (Nat.le_of_ble_eq_true rfl) rfl ⟨tv, ⟨tv, ⟨g.1, g.2⟩⟩⟩ ?_
                refine AJR_ev env 11 rfl (Nat.le_of_ble_eq_true rfl) rfl ⟨tv, tv⟩ ?_
                refine AJR_ev env 12 rfl (Nat.le_of_ble_eq_true rfl) rfl tv ?_
                refine AJR_ev env 13 rfl (Nat.le_of_ble_eq_true rfl) rfl tv ?_
                refine AJR_ev env 14 rfl (Nat.le_of_ble_eq_true rfl) rfl tv ?_
                refine AJR_ev env 15 rfl (Nat.le_of_ble_eq_true rfl) rfl ⟨tv, tv⟩ ?_
                refine AJR_ev env 16 rfl (Nat.le_of_ble_eq_true rfl) rfl tv ?_
                refine AJR_ev env 17 rfl (Nat.le_of_ble_eq_true rfl) rfl ⟨tv, ⟨tv, ⟨(by decide), (by decide)⟩⟩⟩ ?_
                refine AJR_ev env 18 rfl (Nat.le_of_ble_eq_true rfl) rfl ⟨tv, tv⟩ ?_
                refine AJR_ev env 19 rfl (Nat.le_of_ble_eq_true rfl) rfl tv ?_
                obtain ⟨g, h3⟩ := gd_t h3
                refine AJR_ev env 20 rfl (Nat.le_of_ble_eq_true rfl) rfl ⟨tv, ⟨tv, ⟨g.1, g.2⟩⟩⟩ ?_
                obtain ⟨r367, hr, h3⟩ := bnd h3
                refine AJR_call 21 rfl (Nat.le_of_ble_eq_true rfl) [(0, 4), (1, 1), (2, 0), (3, 2), (4, 3)] rfl (alloc_Share_1_3.ok0 hr) alloc_Share_1_3.fnb rfl ⟨tv, ⟨tv, ⟨tv, tv⟩⟩⟩ rfl ⟨.inr rfl, .inr rfl, .inr rfl, .inr rfl, .inr rfl, tv⟩ rfl ?_
                refine AJR_ev env 22 rfl (Nat.le_of_ble_eq_true rfl) rfl tv ?_
                refine AJR_end rfl rfl rfl ?_
                refine TE_go ?_
                refine TC_cond rfl (fun hb => ?_) (fun hb => ?_)
                · first | exact (ftf hb).elim | exact (tff hb).elim | exact absurd hb (by decide)
                · refine TC_skip ?_
                  refine tbn ?_
                  obtain rfl := sinj h3
                  refine tsn ?_
                  exact SP_ren [] (_, _, _) rfl ⟨rfl, rfl, rfl, rfl, rfl, rfl, rfl, tv⟩ ⟨rfl, rfl, rfl, rfl, rfl, tv⟩ rfl
              · exact (nsome h3).elim
          · rintro ⟨x358, x359, x360⟩ rfl
            refine TE_go ?_
            refine TC_reg ?_
            refine TL_ev env 2 rfl ⟨⟨tv, ⟨tv, tv⟩⟩, ⟨tv, tv⟩⟩ ?_
            refine TL_end ?_
            refine tsn ?_
            exact TE_nextr [] n (Nat.lt_succ_self n) (_, _, _) h2 ⟨rfl, rfl, rfl, rfl, rfl, rfl, rfl, tv⟩ ⟨rfl, rfl, rfl, rfl, rfl, tv⟩ rfl
        · replace h2 := bif_f h2 hb
          refine TC_exit ?_
          refine tsx ?_
          refine tsx ?_
          refine tbe ?_
          obtain rfl := sinj h2
          refine tsn ?_
          exact SP_ren [] (_, _) rfl ⟨rfl, rfl, rfl, rfl, tv⟩ ⟨rfl, rfl, rfl, rfl, rfl, tv⟩ rfl
      · rintro ⟨x332, x333⟩ rfl
        refine tbn ?_
        refine TE_go ?_
        refine TC_reg ?_
        refine TL_ev env 2 rfl ⟨⟨tv, ⟨tv, tv⟩⟩, ⟨tv, tv⟩⟩ ?_
        refine TL_end ?_
        refine tsn ?_
        exact TE_nextr [] n (Nat.lt_succ_self n) (_, _, _) h1 ⟨rfl, rfl, rfl, rfl, tv⟩ ⟨rfl, rfl, rfl, rfl, rfl, tv⟩ rfl
    · replace h1 := bif_f h1 hb
      refine TC_exit ?_
      refine tsx ?_
      refine tsx ?_
      refine tbe ?_
      obtain rfl := sinj h1
      refine tsn ?_
      exact SP_ren [] (_, _) rfl tv ⟨rfl, rfl, rfl, rfl, rfl, tv⟩ rfl
  · rintro ⟨x193, x194⟩ rfl
    obtain rfl := sinj h0
    exact TE_end env rfl tv ⟨.inr rfl, .inr rfl, .inr rfl, .inr rfl, .inr rfl, tv⟩
theorem alloc_sharing_each_7.ok0 {K : Nat} {p0 : Int} {p1 : Int} {p2 : Int} {p3 : List (List (Int))} {p4 : List (Int)} {p5 : List (Int)} {q0 : List (Int)} {q1 : List (Int)} (h0 : alloc_sharing_each_7 K p0 p1 p2 p3 p4 p5 = some (q0, q1)) : Fn Try.prog 104 [.p 0 0, .fn 105 [.p 1 0]] [(0, some (.cells [.int .i64 p0, .int .i64 p1, .int .i64 p2, .im (.slice (.slice (.int .i64))) p3, .hd 2 2])), (1, some (.cells [.p 0 0])), (2, some (.cells [.sl 3, .sl 4])), (3, some (.rows (.int .i64) p4)), (4, some (.rows (.int .i64) p5))] (.tup []) [(0, some (.cells [.int .i64 p0, .int .i64 p1, .int .i64 p2, .im (.slice (.slice (.int .i64))) p3, .hd 2 2])), (1, some (.cells [.p 0 0])), (2, some (.cells [.sl 3, .sl 4])), (3, some (.rows (.int .i64) q0)), (4, some (.rows (.int .i64) q1))] := alloc_sharing_each_7.ok h0
theorem alloc_sharing_each_7.fnb : fnb Try.prog 104 = true := fnb_of Try.func104 rfl
def alloc_sharing_more_1_2.res (_p0 : Int) (_p1 : Nat) (_p2 : List (Int)) (_p3 : Bool) (_p4 : Int) (_p5 : Int) (_p6 : Int) (_p7 : List (List (Int))) (_p8 : List (Int)) : Bool × (List (Int)) × Int → MV
  | (q0, _, _) => .bool q0
def alloc_sharing_more_1_2.out (_p0 : Int) (_p1 : Nat) (_p2 : List (Int)) (p3 : Bool) (p4 : Int) (p5 : Int) (_p6 : Int) (p7 : List (List (Int))) (p8 : List (Int)) : Bool × (List (Int)) × Int → List (Nat × Option MObj)
  | (_, q1, q2) => [(0, some (.rows (.int .i64) q1)), (1, some (.cells [.p 3 0])), (2, some (.cells [.bool p3])), (3, some (.cells [.int .i64 p4, .int .i64 p5, .int .i64 q2, .im (.slice (.slice (.int .i64))) p7, .hd 4 2])), (4, some (.cells [.sl 0, .sl 5])), (5, some (.rows (.int .i64) p8))]
theorem alloc_sharing_more_1_2.ok {K : Nat} {p0 : Int} {p1 : Nat} {p2 : List (Int)} {p3 : Bool} {p4 : Int} {p5 : Int} {p6 : Int} {p7 : List (List (Int))} {p8 : List (Int)} {r : Bool × (List (Int)) × Int} (h0 : alloc_sharing_more_1_2 K p0 p1 p2 p3 p4 p5 p6 p7 p8 = some r) : Fn Try.prog 136 [.int .i64 p0, .pe 0 p1 0, .p 1 0, .p 2 0] [(0, some (.rows (.int .i64) p2)), (1, some (.cells [.p 3 0])), (2, some (.cells [.bool p3])), (3, some (.cells [.int .i64 p4, .int .i64 p5, .int .i64 p6, .im (.slice (.slice (.int .i64))) p7, .hd 4 2])), (4, some (.cells [.sl 0, .sl 5])), (5, some (.rows (.int .i64) p8))] (alloc_sharing_more_1_2.res p0 p1 p2 p3 p4 p5 p6 p7 p8 r) (alloc_sharing_more_1_2.out p0 p1 p2 p3 p4 p5 p6 p7 p8 r) := by
  refine Fn_of Try.func136 rfl (Nat.le_of_ble_eq_true rfl) fun Γ => ?_
  refine TC_seq ?_
  refine TC_reg ?_
  refine TL_ev env 1 rfl ⟨tv, tv⟩ ?_
  refine TL_end ?_
  refine TE_go ?_
  refine TC_seq ?_
  obtain ⟨z1, h1, h0⟩ := bnd h0
  refine TC_cut (α := (List (Int)) × Int) (fun s => z1 = .inl s) (fun s => []) (fun s => [(0, some (.rows (.int .i64) s.1)), (1, some (.cells [.p 3 0])), (2, some (.cells [.bool p3])), (3, some (.cells [.int .i64 p4, .int .i64 p5, .int .i64 s.2, .im (.slice (.slice (.int .i64))) p7, .hd 4 2])), (4, some (.cells [.sl 0, .sl 5])), (5, some (.rows (.int .i64) p8))]) ?_ ?_
  · refine TC_blk ?_
    refine TC_seq ?_
    refine TC_renw (A' := [(0, .int .i64 _), (1, .pe 0 _ 0), (2, .p 1 0), (3, .p 2 0)]) (L' := [(0, some (.rows (.int .i64) _)), (1, some (.cells [.p 3 0])), (2, some (.cells [.bool _])), (3, some (.cells [.int .i64 _, .int .i64 _, .int .i64 _, .im (.slice (.slice (.int .i64))) _, .hd 4 2])), (4, some (.cells [.sl 0, .sl 5])), (5, some (.rows (.int .i64) _))]) [] ⟨rfl, rfl, rfl, rfl, tv⟩ ⟨rfl, rfl, rfl, rfl, rfl, rfl, tv⟩ rfl ?_
    refine TC_drawR ⟨_, fun i => ([[], [0], [1, 0], [2, 1, 0], [], [4], [5, 4], [6, 5, 4], [7, 6, 5, 4, 3, 2, 1, 0], [8, 7, 6, 5, 4, 3, 2, 1, 0]] : List (List Nat)).getD i [], fun i => ([[], [], [], [], [], [], [], [], [], []] : List (List Nat)).getD i [], fun i => ([[], [], [], [], [], [], [], [], [], []] : List (List Nat)).getD i []⟩ (fun i => ([[], [], [], [], [], [], [], [], [], []] : List (List Nat)).getD i []) (by kernel_rfl) (by kernel_rfl) ?_
    refine AJR_ev env 1 rfl (Nat.le_of_ble_eq_true rfl) rfl ⟨tv, tv⟩ ?_
    refine AJR_ev env 2 rfl (Nat.le_of_ble_eq_true rfl) rfl tv ?_
    refine AJR_ev env 3 rfl (Nat.le_of_ble_eq_true rfl) rfl tv ?_
    refine AJR_ev env 4 rfl (Nat.le_of_ble_eq_true rfl) rfl ⟨tv, tv⟩ ?_
    refine AJR_ev env 5 rfl (Nat.le_of_ble_eq_true rfl) rfl ⟨tv, tv⟩ ?_
    refine AJR_ev env 6 rfl (Nat.le_of_ble_eq_true rfl) rfl tv ?_
    refine AJR_ev env 7 rfl (Nat.le_of_ble_eq_true rfl) rfl tv ?_
    refine AJR_ev env 8 rfl (Nat.le_of_ble_eq_true rfl) rfl ⟨tv, tv⟩ ?_
    refine AJR_ev env 9 rfl (Nat.le_of_ble_eq_true rfl) rfl ⟨tv, ⟨tv, tv⟩⟩ ?_
    refine AJR_ev env 10 rfl (Nat.le_of_ble_eq_true rfl) rfl tv ?_
    refine AJR_end rfl rfl rfl ?_
    refine TE_go ?_
    refine TC_cond rfl (fun hb => ?_) (fun hb => ?_)
    · replace h1 := bif_t h1 hb
      refine TC_seq ?_
      refine TC_reg ?_
      refine TL_ev env 1 rfl ⟨tv, tv⟩ ?_
      refine TL_end ?_
      refine TE_go ?_
      refine TC_ret ?_
      refine tbr ?_
      refine tsr ?_
      refine tsr ?_
      obtain rfl := sinj h1
      obtain rfl := sinj h0
      exact TE_ret env rfl tv ⟨.inr rfl, .inr rfl, .inr rfl, .inr rfl, .inr rfl, .inr rfl, tv⟩
    · replace h1 := bif_f h1 hb
      refine TC_seq ?_
      refine TC_reg ?_
      obtain ⟨g, h1⟩ := gd_t h1
      refine TL_ev env 11 rfl ⟨tv, ⟨tv, ⟨⟨tv, g.1⟩, ⟨⟨tv, ⟨tv, tv⟩⟩, ⟨tv, ⟨fun eg => tv, ⟨fun eg => fun e => e, ⟨fun eg => ⟨fun e => e, (g.2 eg)⟩, ⟨fun eg => ⟨fun e => e, ⟨tv, tv⟩⟩, ⟨⟨tv, ⟨fun e => e, tv⟩⟩, ⟨tv, tv⟩⟩⟩⟩⟩⟩⟩⟩⟩⟩⟩ ?_
      refine TL_end ?_
      refine TE_go ?_
      refine TC_cond rfl (fun hb => ?_) (fun hb => ?_)
      · replace h1 := bif_t h1 hb
        refine TC_seq ?_
        refine TC_reg ?_
        obtain ⟨g, h1⟩ := gd_t h1
        refine TL_ev env 6 rfl ⟨tv, ⟨tv, ⟨⟨tv, g.1⟩, ⟨⟨tv, ⟨tv, tv⟩⟩, ⟨tv, ⟨⟨tv, ⟨tv, g.2⟩⟩, tv⟩⟩⟩⟩⟩⟩ ?_
        refine TL_end ?_
        refine TE_go ?_
        refine TC_reg ?_
        refine TL_ev env 8 rfl ⟨⟨tv, tv⟩, ⟨tv, ⟨tv, ⟨⟨tv, tv⟩, ⟨⟨tv, ⟨tv, tv⟩⟩, ⟨tv, ⟨tv, ⟨⟨tv, tv⟩, tv⟩⟩⟩⟩⟩⟩⟩⟩ ?_
        refine TL_end ?_
        refine tbn ?_
        obtain rfl := sinj h1
        refine tsn ?_
        exact SP_ren [] (_, _) rfl tv ⟨rfl, rfl, rfl, rfl, rfl, rfl, tv⟩ rfl
      · replace h1 := bif_f h1 hb
        refine TC_seq ?_
        refine TC_renw (A' := [(0, .int .i64 _), (1, .pe 0 _ 0), (2, .p 1 0), (3, .p 2 0)]) (L' := [(0, some (.rows (.int .i64) _)), (1, some (.cells [.p 3 0])), (2, some (.cells [.bool _])), (3, some (.cells [.int .i64 _, .int .i64 _, .int .i64 _, .im (.slice (.slice (.int .i64))) _, .hd 4 2])), (4, some (.cells [.sl 0, .sl 5])), (5, some (.rows (.int .i64) _))]) [] ⟨rfl, rfl, rfl, rfl, tv⟩ ⟨rfl, rfl, rfl, rfl, rfl, rfl, tv⟩ rfl ?_
        refine TC_drawR ⟨_, fun i => ([[], [0], [1, 0], [1, 0], [3, 1, 0], [4, 3, 1, 0], [5, 4, 3, 1, 0], [6, 5, 4, 3, 1, 0], [7, 6, 5, 4, 3, 2, 1, 0], [8, 7, 6, 5, 4, 3, 2, 1, 0], [9, 8, 7, 6, 5, 4, 3, 2, 1, 0], [10, 9, 8, 7, 6, 5, 4, 3, 2, 1, 0], [11, 10, 9, 8, 7, 6, 5, 4, 3, 2, 1, 0], [12, 11, 10, 9, 8, 7, 6, 5, 4, 3, 2, 1, 0], [13, 12, 11, 10, 9, 8, 7, 6, 5, 4, 3, 2, 1, 0], [10, 9, 8, 7, 6, 5, 4, 3, 2, 1, 0], [15, 10, 9, 8, 7, 6, 5, 4, 3, 2, 1, 0], [16, 15, 10, 9, 8, 7, 6, 5, 4, 3, 2, 1, 0], [17, 16, 15, 10, 9, 8, 7, 6, 5, 4, 3, 2, 1, 0], [18, 17, 16, 15, 10, 9, 8, 7, 6, 5, 4, 3, 2, 1, 0], [19, 18, 17, 16, 15, 14, 13, 12, 11, 10, 9, 8, 7, 6, 5, 4, 3, 2, 1, 0], [20, 19, 18, 17, 16, 15, 14, 13, 12, 11, 10, 9, 8, 7, 6, 5, 4, 3, 2, 1, 0], [21, 20, 19, 18, 17, 16, 15, 14, 13, 12, 11, 10, 9, 8, 7, 6, 5, 4, 3, 2, 1, 0]] : List (List Nat)).getD i [], fun i => ([[], [], [], [], [], [], [], [], [], [], [], [], [], [], [], [], [], [], [], [], [], [], []] : List (List Nat)).getD i [], fun i => ([[], [], [], [], [], [], [], [], [], [], [], [], [], [], [], [], [], [], [], [], [], [], []] : List (List Nat)).getD i []⟩ (fun i => ([[], [], [], [], [], [], [], [], [], [], [], [], [], [], [], [], [], [], [], [], [], [], []] : List (List Nat)).getD i []) (by kernel_rfl) (by kernel_rfl) ?_
        refine AJR_ev env 1 rfl (Nat.le_of_ble_eq_true rfl) rfl ⟨tv, tv⟩ ?_
        refine AJR_ev env 2 rfl (Nat.le_of_ble_eq_true rfl) rfl tv ?_
        refine AJR_ev env 3 rfl (Nat.le_of_ble_eq_true rfl) rfl (fun eg => tv) ?_
        refine AJR_ev env 4 rfl (Nat.le_of_ble_eq_true rfl) rfl (fun eg => ⟨tv, tv⟩) ?_
        refine AJR_ev env 5 rfl (Nat.le_of_ble_eq_true rfl) rfl (fun eg => fun e => e) ?_
        refine AJR_ev env 6 rfl (Nat.le_of_ble_eq_true rfl) rfl (fun eg => fun e => e) ?_
        refine AJR_ev env 7 rfl (Nat.le_of_ble_eq_true rfl) rfl (fun eg => ⟨fun e => e, tv⟩) ?_
        refine AJR_ev env 8 rfl (Nat.le_of_ble_eq_true rfl) rfl (fun eg => ⟨fun e => e, ⟨tv, tv⟩⟩) ?_
        refine AJR_ev env 9 rfl (Nat.le_of_ble_eq_true rfl) rfl (fun eg => ⟨fun e => e, ⟨fun e => e, tv⟩⟩) ?_
        refine AJR_ev env 10 rfl (Nat.le_of_ble_eq_true rfl) rfl ⟨tv, ⟨fun e => e, tv⟩⟩ ?_
        refine AJR_ev env 11 rfl (Nat.le_of_ble_eq_true rfl) rfl tv ?_
        refine AJR_ev env 12 rfl (Nat.le_of_ble_eq_true rfl) rfl (fun eg => ⟨tv, tv⟩) ?_
        refine AJR_ev env 13 rfl (Nat.le_of_ble_eq_true rfl) rfl (fun eg => fun e => e) ?_
        refine AJR_ev env 14 rfl (Nat.le_of_ble_eq_true rfl) rfl (fun eg => fun e => e) ?_
        refine AJR_ev env 15 rfl (Nat.le_of_ble_eq_true rfl) rfl (fun eg => ⟨fun e => e, tv⟩) ?_
        refine AJR_ev env 16 rfl (Nat.le_of_ble_eq_true rfl) rfl (fun eg => ⟨tv, tv⟩) ?_
        refine AJR_ev env 17 rfl (Nat.le_of_ble_eq_true rfl) rfl (fun eg => fun e => e) ?_
        refine AJR_ev env 18 rfl (Nat.le_of_ble_eq_true rfl) rfl (fun eg => fun e => e) ?_
        refine AJR_ev env 19 rfl (Nat.le_of_ble_eq_true rfl) rfl (fun eg => ⟨fun e => e, tv⟩) ?_
        refine AJR_ev env 20 rfl (Nat.le_of_ble_eq_true rfl) rfl (fun eg => ⟨fun e => e, ⟨tv, tv⟩⟩) ?_
        refine AJR_ev env 21 rfl (Nat.le_of_ble_eq_true rfl) rfl (fun eg => ⟨fun e => e, ⟨fun e => e, tv⟩⟩) ?_
        refine AJR_ev env 22 rfl (Nat.le_of_ble_eq_true rfl) rfl ⟨tv, ⟨fun e => e, tv⟩⟩ ?_
        refine AJR_ev env 23 rfl (Nat.le_of_ble_eq_true rfl) rfl tv ?_
        refine AJR_end rfl rfl rfl ?_
        refine TE_go ?_
        refine TC_cond rfl (fun hb => ?_) (fun hb => ?_)
        · replace h1 := bif_t h1 hb
          refine TC_seq ?_
          refine TC_reg ?_
          obtain ⟨g, h1⟩ := gd_t h1
          refine TL_ev env 3 rfl ⟨tv, ⟨tv, ⟨⟨tv, ⟨tv, g⟩⟩, tv⟩⟩⟩ ?_
          refine TL_end ?_
          refine TE_go ?_
          refine TC_reg ?_
          refine TL_ev env 8 rfl ⟨⟨tv, tv⟩, ⟨tv, ⟨tv, ⟨⟨tv, tv⟩, ⟨⟨tv, ⟨tv, tv⟩⟩, ⟨tv, ⟨tv, ⟨⟨tv, tv⟩, tv⟩⟩⟩⟩⟩⟩⟩⟩ ?_
          refine TL_end ?_
          refine tbn ?_
          obtain rfl := sinj h1
          refine tsn ?_
          exact SP_ren [] (_, _) rfl tv ⟨rfl, rfl, rfl, rfl, rfl, rfl, tv⟩ rfl
        · replace h1 := bif_f h1 hb
          refine TC_skip ?_
          refine tbn ?_
          obtain rfl := sinj h1
          refine tsn ?_
          exact SP_ren [] (_, _) rfl tv ⟨rfl, rfl, rfl, rfl, rfl, rfl, tv⟩ rfl
  · rintro ⟨x3, x4⟩ rfl
    refine TE_go ?_
    refine TC_seq ?_
    refine TC_reg ?_
    refine TL_ev env 1 rfl ⟨tv, tv⟩ ?_
    refine TL_end ?_
    refine TE_go ?_
    refine TC_ret ?_
    obtain rfl := sinj h0
    exact TE_ret env rfl tv ⟨.inr rfl, .inr rfl, .inr rfl, .inr rfl, .inr rfl, .inr rfl, tv⟩
theorem alloc_sharing_more_1_2.ok0 {K : Nat} {p0 : Int} {p1 : Nat} {p2 : List (Int)} {p3 : Bool} {p4 : Int} {p5 : Int} {p6 : Int} {p7 : List (List (Int))} {p8 : List (Int)} {q0 : Bool} {q1 : List (Int)} {q2 : Int} (h0 : alloc_sharing_more_1_2 K p0 p1 p2 p3 p4 p5 p6 p7 p8 = some (q0, q1, q2)) : Fn Try.prog 136 [.int .i64 p0, .pe 0 p1 0, .p 1 0, .p 2 0] [(0, some (.rows (.int .i64) p2)), (1, some (.cells [.p 3 0])), (2, some (.cells [.bool p3])), (3, some (.cells [.int .i64 p4, .int .i64 p5, .int .i64 p6, .im (.slice (.slice (.int .i64))) p7, .hd 4 2])), (4, some (.cells [.sl 0, .sl 5])), (5, some (.rows (.int .i64) p8))] (.bool q0) [(0, some (.rows (.int .i64) q1)), (1, some (.cells [.p 3 0])), (2, some (.cells [.bool p3])), (3, some (.cells [.int .i64 p4, .int .i64 p5, .int .i64 q2, .im (.slice (.slice (.int .i64))) p7, .hd 4 2])), (4, some (.cells [.sl 0, .sl 5])), (5, some (.rows (.int .i64) p8))] := alloc_sharing_more_1_2.ok h0
theorem alloc_sharing_more_1_2.fnb : fnb Try.prog 136 = true := fnb_of Try.func136 rfl
def alloc_sharing_more_1_3.res (_p0 : Int) (_p1 : Nat) (_p2 : List (Int)) (_p3 : Bool) (_p4 : Int) (_p5 : Int) (_p6 : Int) (_p7 : List (List (Int))) (_p8 : List (Int)) : Bool × (List (Int)) × Int → MV
  | (q0, _, _) => .bool q0
def alloc_sharing_more_1_3.out (_p0 : Int) (_p1 : Nat) (_p2 : List (Int)) (p3 : Bool) (p4 : Int) (p5 : Int) (_p6 : Int) (p7 : List (List (Int))) (p8 : List (Int)) : Bool × (List (Int)) × Int → List (Nat × Option MObj)
  | (_, q1, q2) => [(0, some (.rows (.int .i64) q1)), (1, some (.cells [.p 3 0])), (2, some (.cells [.bool p3])), (3, some (.cells [.int .i64 p4, .int .i64 p5, .int .i64 q2, .im (.slice (.slice (.int .i64))) p7, .hd 4 2])), (4, some (.cells [.sl 5, .sl 0])), (5, some (.rows (.int .i64) p8))]
theorem alloc_sharing_more_1_3.ok {K : Nat} {p0 : Int} {p1 : Nat} {p2 : List (Int)} {p3 : Bool} {p4 : Int} {p5 : Int} {p6 : Int} {p7 : List (List (Int))} {p8 : List (Int)} {r : Bool × (List (Int)) × Int} (h0 : alloc_sharing_more_1_3 K p0 p1 p2 p3 p4 p5 p6 p7 p8 = some r) : Fn Try.prog 136 [.int .i64 p0, .pe 0 p1 0, .p 1 0, .p 2 0] [(0, some (.rows (.int .i64) p2)), (1, some (.cells [.p 3 0])), (2, some (.cells [.bool p3])), (3, some (.cells [.int .i64 p4, .int .i64 p5, .int .i64 p6, .im (.slice (.slice (.int .i64))) p7, .hd 4 2])), (4, some (.cells [.sl 5, .sl 0])), (5, some (.rows (.int .i64) p8))] (alloc_sharing_more_1_3.res p0 p1 p2 p3 p4 p5 p6 p7 p8 r) (alloc_sharing_more_1_3.out p0 p1 p2 p3 p4 p5 p6 p7 p8 r) := by
  refine Fn_of Try.func136 rfl (Nat.le_of_ble_eq_true rfl) fun Γ => ?_
  refine TC_seq ?_
  refine TC_reg ?_
  refine TL_ev env 1 rfl ⟨tv, tv⟩ ?_
  refine TL_end ?_
  refine TE_go ?_
  refine TC_seq ?_
  obtain ⟨z1, h1, h0⟩ := bnd h0
  refine TC_cut (α := (List (Int)) × Int) (fun s => z1 = .inl s) (fun s => []) (fun s => [(0, some (.rows (.int .i64) s.1)), (1, some (.cells [.p 3 0])), (2, some (.cells [.bool p3])), (3, some (.cells [.int .i64 p4, .int .i64 p5, .int .i64 s.2, .im (.slice (.slice (.int .i64))) p7, .hd 4 2])), (4, some (.cells [.sl 5, .sl 0])), (5, some (.rows (.int .i64) p8))]) ?_ ?_
  · refine TC_blk ?_
    refine TC_seq ?_
    refine TC_renw (A' := [(0, .int .i64 _), (1, .pe 0 _ 0), (2, .p 1 0), (3, .p 2 0)]) (L' := [(0, some (.rows (.int .i64) _)), (1, some (.cells [.p 3 0])), (2, some (.cells [.bool _])), (3, some (.cells [.int .i64 _, .int .i64 _, .int .i64 _, .im (.slice (.slice (.int .i64))) _, .hd 4 2])), (4, some (.cells [.sl 5, .sl 0])), (5, some (.rows (.int .i64) _))]) [] ⟨rfl, rfl, rfl, rfl, tv⟩ ⟨rfl, rfl, rfl, rfl, rfl, rfl, tv⟩ rfl ?_
    refine TC_drawR ⟨_, fun i => ([[], [0], [1, 0], [2, 1, 0], [], [4], [5, 4], [6, 5, 4], [7, 6, 5, 4, 3, 2, 1, 0], [8, 7, 6, 5, 4, 3, 2, 1, 0]] : List (List Nat)).getD i [], fun i => ([[], [], [], [], [], [], [], [], [], []] : List (List Nat)).getD i [], fun i => ([[], [], [], [], [], [], [], [], [], []] : List (List Nat)).getD i []⟩ (fun i => ([[], [], [], [], [], [], [], [], [], []] : List (List Nat)).getD i []) (by kernel_rfl) (by kernel_rfl) ?_
    refine AJR_ev env 1 rfl (Nat.le_of_ble_eq_true rfl) rfl ⟨tv, tv⟩ ?_
    refine AJR_ev env 2 rfl (Nat.le_of_ble_eq_true rfl) rfl tv ?_
    refine AJR_ev env 3 rfl (Nat.le_of_ble_eq_true rfl) rfl tv ?_
    refine AJR_ev env 4 rfl (Nat.le_of_ble_eq_true rfl) rfl ⟨tv, tv⟩ ?_
    refine AJR_ev env 5 rfl (Nat.le_of_ble_eq_true rfl) rfl ⟨tv, tv⟩ ?_
    refine AJR_ev env 6 rfl (Nat.le_of_ble_eq_true rfl) rfl tv ?_
    refine AJR_ev env 7 rfl (Nat.le_of_ble_eq_true rfl) rfl tv ?_
    refine AJR_ev env 8 rfl (Nat.le_of_ble_eq_true rfl) rfl ⟨tv, tv⟩ ?_
    refine AJR_ev env 9 rfl (Nat.le_of_ble_eq_true rfl) rfl ⟨tv, ⟨tv, tv⟩⟩ ?_
    refine AJR_ev env 10 rfl (Nat.le_of_ble_eq_true rfl) rfl tv ?_
    refine AJR_end rfl rfl rfl ?_
    refine TE_go ?_
    refine TC_cond rfl (fun hb => ?_) (fun hb => ?_)
    · replace h1 := bif_t h1 hb
      refine TC_seq ?_
      refine TC_reg ?_
      refine TL_ev env 1 rfl ⟨tv, tv⟩ ?_
      refine TL_end ?_
      refine TE_go ?_
      refine TC_ret ?_
      refine tbr ?_
      refine tsr ?_
      refine tsr ?_
      obtain rfl := sinj h1
      obtain rfl := sinj h0
      exact TE_ret env rfl tv ⟨.inr rfl, .inr rfl, .inr rfl, .inr rfl, .inr rfl, .inr rfl, tv⟩
    · replace h1 := bif_f h1 hb
      refine TC_seq ?_
      refine TC_reg ?_
      obtain ⟨g, h1⟩ := gd_t h1
      refine TL_ev env 11 rfl ⟨tv, ⟨tv, ⟨⟨tv, g.1⟩, ⟨⟨tv, ⟨tv, tv⟩⟩, ⟨tv, ⟨fun eg => tv, ⟨fun eg => fun e => e, ⟨fun eg => ⟨fun e => e, (g.2 eg)⟩, ⟨fun eg => ⟨fun e => e, ⟨tv, tv⟩⟩, ⟨⟨tv, ⟨fun e => e, tv⟩⟩, ⟨tv, tv⟩⟩⟩⟩⟩⟩⟩⟩⟩⟩⟩ ?_
      refine TL_end ?_
      refine TE_go ?_
      refine TC_cond rfl (fun hb => ?_) (fun hb => ?_)
      · replace h1 := bif_t h1 hb
        refine TC_seq ?_
        refine TC_reg ?_
        obtain ⟨g, h1⟩ := gd_t h1
        refine TL_ev env 6 rfl ⟨tv, ⟨tv, ⟨⟨tv, g.1⟩, ⟨⟨tv, ⟨tv, tv⟩⟩, ⟨tv, ⟨⟨tv, ⟨tv, g.2⟩⟩, tv⟩⟩⟩⟩⟩⟩ ?_
        refine TL_end ?_
        refine TE_go ?_
        refine TC_reg ?_
        refine TL_ev env 8 rfl ⟨⟨tv, tv⟩, ⟨tv, ⟨tv, ⟨⟨tv, tv⟩, ⟨⟨tv, ⟨tv, tv⟩⟩, ⟨tv, ⟨tv, ⟨⟨tv, tv⟩, tv⟩⟩⟩⟩⟩⟩⟩⟩ ?_
        refine TL_end ?_
        refine tbn ?_
        obtain rfl := sinj h1
        refine tsn ?_
        exact SP_ren [] (_, _) rfl tv ⟨rfl, rfl, rfl, rfl, rfl, rfl, tv⟩ rfl
      · replace h1 := bif_f h1 hb
        refine TC_seq ?_
        refine TC_renw (A' := [(0, .int .i64 _), (1, .pe 0 _ 0), (2, .p 1 0), (3, .p 2 0)]) (L' := [(0, some (.rows (.int .i64) _)), (1, some (.cells [.p 3 0])), (2, some (.cells [.bool _])), (3, some (.cells [.int .i64 _, .int .i64 _, .int .i64 _, .im (.slice (.slice (.int .i64))) _, .hd 4 2])), (4, some (.cells [.sl 5, .sl 0])), (5, some (.rows (.int .i64) _))]) [] ⟨rfl, rfl, rfl, rfl, tv⟩ ⟨rfl, rfl, rfl, rfl, rfl, rfl, tv⟩ rfl ?_
        refine TC_drawR ⟨_, fun i => ([[], [0], [1, 0], [1, 0], [3, 1, 0], [4, 3, 1, 0], [5, 4, 3, 1, 0], [6, 5, 4, 3, 1, 0], [7, 6, 5, 4, 3, 2, 1, 0], [8, 7, 6, 5, 4, 3, 2, 1, 0], [9, 8, 7, 6, 5, 4, 3, 2, 1, 0], [10, 9, 8, 7, 6, 5, 4, 3, 2, 1, 0], [11, 10, 9, 8, 7, 6, 5, 4, 3, 2, 1, 0], [12, 11, 10, 9, 8, 7, 6, 5, 4, 3, 2, 1, 0], [13, 12, 11, 10, 9, 8, 7, 6, 5, 4, 3, 2, 1, 0], [10, 9, 8, 7, 6, 5, 4, 3, 2, 1, 0], [15, 10, 9, 8, 7, 6, 5, 4, 3, 2, 1, 0], [16, 15, 10, 9, 8, 7, 6, 5, 4, 3, 2, 1, 0], [17, 16, 15, 10, 9, 8, 7, 6, 5, 4, 3, 2, 1, 0], [18, 17, 16, 15, 10, 9, 8, 7, 6, 5, 4, 3, 2, 1, 0], [19, 18, 17, 16, 15, 14, 13, 12, 11, 10, 9, 8, 7, 6, 5, 4, 3, 2, 1, 0], [20, 19, 18, 17, 16, 15, 14, 13, 12, 11, 10, 9, 8, 7, 6, 5, 4, 3, 2, 1, 0], [21, 20, 19, 18, 17, 16, 15, 14, 13, 12, 11, 10, 9, 8, 7, 6, 5, 4, 3, 2, 1, 0]] : List (List Nat)).getD i [], fun i => ([[], [], [], [], [], [], [], [], [], [], [], [], [], [], [], [], [], [], [], [], [], [], []] : List (List Nat)).getD i [], fun i => ([[], [], [], [], [], [], [], [], [], [], [], [], [], [], [], [], [], [], [], [], [], [], []] : List (List Nat)).getD i []⟩ (fun i => ([[], [], [], [], [], [], [], [], [], [], [], [], [], [], [], [], [], [], [], [], [], [], []] : List (List Nat)).getD i []) (by kernel_rfl) (by kernel_rfl) ?_
        refine AJR_ev env 1 rfl (Nat.le_of_ble_eq_true rfl) rfl ⟨tv, tv⟩ ?_
        refine AJR_ev env 2 rfl (Nat.le_of_ble_eq_true rfl) rfl tv ?_
        refine AJR_ev env 3 rfl (Nat.le_of_ble_eq_true rfl) rfl (fun eg => tv) ?_
        refine AJR_ev env 4 rfl (Nat.le_of_ble_eq_true rfl) rfl (fun eg => ⟨tv, tv⟩) ?_
        refine AJR_ev env 5 rfl (Nat.le_of_ble_eq_true rfl) rfl (fun eg => fun e => e) ?_
        refine AJR_ev env 6 rfl (Nat.le_of_ble_eq_true rfl) rfl (fun eg => fun e => e) ?_
        refine AJR_ev env 7 rfl (Nat.le_of_ble_eq_true rfl) rfl (fun eg => ⟨fun e => e, tv⟩) ?_
        refine AJR_ev env 8 rfl (Nat.le_of_ble_eq_true rfl) rfl (fun eg => ⟨fun e => e, ⟨tv, tv⟩⟩) ?_
        refine AJR_ev env 9 rfl (Nat.le_of_ble_eq_true rfl) rfl (fun eg => ⟨fun e => e, ⟨fun e => e, tv⟩⟩) ?_
        refine AJR_ev env 10 rfl (Nat.le_of_ble_eq_true rfl) rfl ⟨tv, ⟨fun e => e, tv⟩⟩ ?_
        refine AJR_ev env 11 rfl (Nat.le_of_ble_eq_true rfl) rfl tv ?_
        refine AJR_ev env 12 rfl (Nat.le_of_ble_eq_true rfl) rfl (fun eg => ⟨tv, tv⟩) ?_
        refine AJR_ev env 13 rfl (Nat.le_of_ble_eq_true rfl) rfl (fun eg => fun e => e) ?_
        refine AJR_ev env 14 rfl (Nat.le_of_ble_eq_true rfl) rfl (fun eg => fun e => e) ?_
        refine AJR_ev env 15 rfl (Nat.le_of_ble_eq_true rfl) rfl (fun eg => ⟨fun e => e, tv⟩) ?_
        refine AJR_ev env 16 rfl (Nat.le_of_ble_eq_true rfl) rfl (fun eg => ⟨tv, tv⟩) ?_
        refine AJR_ev env 17 rfl (Nat.le_of_ble_eq_true rfl) rfl (fun eg => fun e => e) ?_
        refine AJR_ev env 18 rfl (Nat.le_of_ble_eq_true rfl) rfl (fun eg => fun e => e) ?_
        refine AJR_ev env 19 rfl (Nat.le_of_ble_eq_true rfl) rfl (fun eg => ⟨fun e => e, tv⟩) ?_
        refine AJR_ev env 20 rfl (Nat.le_of_ble_eq_true rfl) rfl (fun eg => ⟨fun e => e, ⟨tv, tv⟩⟩) ?_
        refine AJR_ev env 21 rfl (Nat.le_of_ble_eq_true rfl) rfl (fun eg => ⟨fun e => e, ⟨fun e => e, tv⟩⟩) ?_
        refine AJR_ev env 22 rfl (Nat.le_of_ble_eq_true rfl) rfl ⟨tv, ⟨fun e => e, tv⟩⟩ ?_
        refine AJR_ev env 23 rfl (Nat.le_of_ble_eq_true rfl) rfl tv ?_
        refine AJR_end rfl rfl rfl ?_
        refine TE_go ?_
        refine TC_cond rfl (fun hb => ?_) (fun hb => ?_)
        · replace h1 := bif_t h1 hb
          refine TC_seq ?_
          refine TC_reg ?_
          obtain ⟨g, h1⟩ := gd_t h1
          refine TL_ev env 3 rfl ⟨tv, ⟨tv, ⟨⟨tv, ⟨tv, g⟩⟩, tv⟩⟩⟩ ?_
          refine TL_end ?_
          refine TE_go ?_
          refine TC_reg ?_
          refine TL_ev env 8 rfl ⟨⟨tv, tv⟩, ⟨tv, ⟨tv, ⟨⟨tv, tv⟩, ⟨⟨tv, ⟨tv, tv⟩⟩, ⟨tv, ⟨tv, ⟨⟨tv, tv⟩, tv⟩⟩⟩⟩⟩⟩⟩⟩ ?_
          refine TL_end ?_
          refine tbn ?_
          obtain rfl := sinj h1
          refine tsn ?_
          exact SP_ren [] (_, _) rfl tv ⟨rfl, rfl, rfl, rfl, rfl, rfl, tv⟩ rfl
        · replace h1 := bif_f h1 hb
          refine TC_skip ?_
          refine tbn ?_
          obtain rfl := sinj h1
          refine tsn ?_
          exact SP_ren [] (_, _) rfl tv ⟨rfl, rfl, rfl, rfl, rfl, rfl, tv⟩ rfl
  · rintro ⟨x3, x4⟩ rfl
    refine TE_go ?_
    refine TC_seq ?_
    refine TC_reg ?_
    refine TL_ev env 1 rfl ⟨tv, tv⟩ ?_
    refine TL_end ?_
    refine TE_go ?_
    refine TC_ret ?_
    obtain rfl := sinj h0
    exact TE_ret env rfl tv ⟨.inr rfl, .inr rfl, .inr rfl, .inr rfl, .inr rfl, .inr rfl, tv⟩
theorem alloc_sharing_more_1_3.ok0 {K : Nat} {p0 : Int} {p1 : Nat} {p2 : List (Int)} {p3 : Bool} {p4 : Int} {p5 : Int} {p6 : Int} {p7 : List (List (Int))} {p8 : List (Int)} {q0 : Bool} {q1 : List (Int)} {q2 : Int} (h0 : alloc_sharing_more_1_3 K p0 p1 p2 p3 p4 p5 p6 p7 p8 = some (q0, q1, q2)) : Fn Try.prog 136 [.int .i64 p0, .pe 0 p1 0, .p 1 0, .p 2 0] [(0, some (.rows (.int .i64) p2)), (1, some (.cells [.p 3 0])), (2, some (.cells [.bool p3])), (3, some (.cells [.int .i64 p4, .int .i64 p5, .int .i64 p6, .im (.slice (.slice (.int .i64))) p7, .hd 4 2])), (4, some (.cells [.sl 5, .sl 0])), (5, some (.rows (.int .i64) p8))] (.bool q0) [(0, some (.rows (.int .i64) q1)), (1, some (.cells [.p 3 0])), (2, some (.cells [.bool p3])), (3, some (.cells [.int .i64 p4, .int .i64 p5, .int .i64 q2, .im (.slice (.slice (.int .i64))) p7, .hd 4 2])), (4, some (.cells [.sl 5, .sl 0])), (5, some (.rows (.int .i64) p8))] := alloc_sharing_more_1_3.ok h0
theorem alloc_sharing_more_1_3.fnb : fnb Try.prog 136 = true := fnb_of Try.func136 rfl
def alloc_sharing_each_8.res (_p0 : Int) (_p1 : Int) (_p2 : Int) (_p3 : List (List (Int))) (_p4 : Bool) (_p5 : List (Int)) (_p6 : List (Int)) : Int × (List (Int)) × (List (Int)) → MV
  | (_, _, _) => .tup []
def alloc_sharing_each_8.out (p0 : Int) (p1 : Int) (_p2 : Int) (p3 : List (List (Int))) (p4 : Bool) (_p5 : List (Int)) (_p6 : List (Int)) : Int × (List (Int)) × (List (Int)) → List (Nat × Option MObj)
  | (q0, q1, q2) => [(0, some (.cells [.int .i64 p0, .int .i64 p1, .int .i64 q0, .im (.slice (.slice (.int .i64))) p3, .hd 3 2])), (1, some (.cells [.p 0 0])), (2, some (.cells [.bool p4])), (3, some (.cells [.sl 4, .sl 5])), (4, some (.rows (.int .i64) q1)), (5, some (.rows (.int .i64) q2))]
theorem alloc_sharing_each_8.ok {K : Nat} {p0 : Int} {p1 : Int} {p2 : Int} {p3 : List (List (Int))} {p4 : Bool} {p5 : List (Int)} {p6 : List (Int)} {r : Int × (List (Int)) × (List (Int))} (h0 : alloc_sharing_each_8 K p0 p1 p2 p3 p4 p5 p6 = some r) : Fn Try.prog 104 [.p 0 0, .fn 136 [.p 1 0, .p 2 0]] [(0, some (.cells [.int .i64 p0, .int .i64 p1, .int .i64 p2, .im (.slice (.slice (.int .i64))) p3, .hd 3 2])), (1, some (.cells [.p 0 0])), (2, some (.cells [.bool p4])), (3, some (.cells [.sl 4, .sl 5])), (4, some (.rows (.int .i64) p5)), (5, some (.rows (.int .i64) p6))] (alloc_sharing_each_8.res p0 p1 p2 p3 p4 p5 p6 r) (alloc_sharing_each_8.out p0 p1 p2 p3 p4 p5 p6 r) := by
  refine Fn_of Try.func104 rfl (Nat.le_of_ble_eq_true rfl) fun Γ => ?_
  refine TC_seq ?_
  refine TC_reg ?_
  obtain ⟨g, h0⟩ := gd_t h0
  refine TL_ev env 8 rfl ⟨tv, ⟨tv, ⟨tv, ⟨⟨tv, tv⟩, ⟨⟨tv, ⟨tv, ⟨(by decide), g⟩⟩⟩, ⟨⟨tv, tv⟩, ⟨⟨tv, tv⟩, ⟨tv, tv⟩⟩⟩⟩⟩⟩⟩⟩ ?_
  refine TL_end ?_
  refine TE_go ?_
  obtain ⟨z1, h1, h0⟩ := bnd h0
  refine TC_cut (α := Int × (List (Int)) × (List (Int))) (fun s => z1 = .inl s) (fun s => []) (fun s => [(0, some (.cells [.int .i64 p0, .int .i64 p1, .int .i64 s.1, .im (.slice (.slice (.int .i64))) p3, .hd 3 2])), (1, some (.cells [.p 0 0])), (2, some (.cells [.bool p4])), (3, some (.cells [.sl 4, .sl 5])), (4, some (.rows (.int .i64) s.2.1)), (5, some (.rows (.int .i64) s.2.2))]) ?_ ?_
  · refine TC_blk ?_
    refine TC_loop (α := Int × Int × (List (Int)) × (List (Int))) (fun n s => alloc_sharing_each_8.l0 K ((Kd.nth (.slice (.int .i64)) p3 0).length : Int) p0 p1 p3 p4 n s.1 s.2.1 s.2.2.1 s.2.2.2 = some z1) (fun s => [(0, .p 0 0), (1, .fn 136 [.p 1 0, .p 2 0]), (12, .int .i64 ((Kd.nth (.slice (.int .i64)) p3 0).length : Int)), (13, .int .i64 s.1)]) (fun s => [(0, some (.cells [.int .i64 p0, .int .i64 p1, .int .i64 s.2.1, .im (.slice (.slice (.int .i64))) p3, .hd 3 2])), (1, some (.cells [.p 0 0])), (2, some (.cells [.bool p4])), (3, some (.cells [.sl 4, .sl 5])), (4, some (.rows (.int .i64) s.2.2.1)), (5, some (.rows (.int .i64) s.2.2.2))]) K ?_ ?_
    · exact SP_ren [] (_, _, _, _) h1 ⟨rfl, rfl, rfl, rfl, tv⟩ ⟨rfl, rfl, rfl, rfl, rfl, rfl, tv⟩ rfl
    rintro n ⟨x425, x426, x427, x428⟩ h1
    rcases n with _ | n
    · exact (nsome h1).elim
    replace h1 : alloc_sharing_each_8.r0 K ((Kd.nth (.slice (.int .i64)) p3 0).length : Int) p0 p1 p3 p4 (alloc_sharing_each_8.l0 K ((Kd.nth (.slice (.int .i64)) p3 0).length : Int) p0 p1 p3 p4 n) x425 x426 x427 x428 = some z1 := h1
    refine TC_seq ?_
    refine TC_reg ?_
    refine TL_ev env 1 rfl ⟨⟨tv, ⟨tv, tv⟩⟩, tv⟩ ?_
    refine TL_end ?_
    refine TE_go ?_
    refine TC_seq ?_
    refine TC_cond rfl (fun hb => ?_) (fun hb => ?_)
    · replace h1 := bif_t h1 hb
      refine TC_skip ?_
      refine TE_go ?_
      refine TC_seq ?_
      refine TC_blk ?_
      refine TC_seq ?_
      refine TC_reg ?_
      refine TL_ev env 2 rfl ⟨tv, ⟨tv, tv⟩⟩ ?_
      refine TL_end ?_
      refine TE_go ?_
      refine TC_seq ?_
      refine TC_reg ?_
      refine TL_ev env 6 rfl ⟨tv, ⟨tv, ⟨tv, ⟨⟨tv, tv⟩, ⟨⟨tv, tv⟩, ⟨tv, tv⟩⟩⟩⟩⟩⟩ ?_
      refine TL_end ?_
      refine TE_go ?_
      obtain ⟨z2, h2, h1⟩ := bnd h1
      refine TC_cut (α := Int × (List (Int)) × (List (Int))) (fun s => z2 = .inl s) (fun s => [(0, .p 0 0), (1, .fn 136 [.p 1 0, .p 2 0]), (12, .int .i64 ((Kd.nth (.slice (.int .i64)) p3 0).length : Int)), (13, .int .i64 x425)]) (fun s => [(0, some (.cells [.int .i64 p0, .int .i64 p1, .int .i64 s.1, .im (.slice (.slice (.int .i64))) p3, .hd 3 2])), (1, some (.cells [.p 0 0])), (2, some (.cells [.bool p4])), (3, some (.cells [.sl 4, .sl 5])), (4, some (.rows (.int .i64) s.2.1)), (5, some (.rows (.int .i64) s.2.2))]) ?_ ?_
      · refine TC_blk ?_
        refine TC_loop (α := Int × Int × (List (Int)) × (List (Int))) (fun n s => alloc_sharing_each_8.l1 K x425 ((Kd.nth (.slice (.int .i64)) p3 0).length : Int) (p3.length : Int) p0 p1 p3 p4 n s.1 s.2.1 s.2.2.1 s.2.2.2 = some z2) (fun s => [(0, .p 0 0), (1, .fn 136 [.p 1 0, .p 2 0]), (4, .int .i64 x425), (12, .int .i64 ((Kd.nth (.slice (.int .i64)) p3 0).length : Int)), (13, .int .i64 x425), (20, .int .i64 (p3.length : Int)), (21, .int .i64 s.1)]) (fun s => [(0, some (.cells [.int .i64 p0, .int .i64 p1, .int .i64 s.2.1, .im (.slice (.slice (.int .i64))) p3, .hd 3 2])), (1, some (.cells [.p 0 0])), (2, some (.cells [.bool p4])), (3, some (.cells [.sl 4, .sl 5])), (4, some (.rows (.int .i64) s.2.2.1)), (5, some (.rows (.int .i64) s.2.2.2))]) K ?_ ?_
        · exact SP_ren [] (_, _, _, _) h2 ⟨rfl, rfl, rfl, rfl, rfl, rfl, rfl, tv⟩ ⟨rfl, rfl, rfl, rfl, rfl, rfl, tv⟩ rfl
        rintro n ⟨x614, x615, x616, x617⟩ h2
        rcases n with _ | n
        · exact (nsome h2).elim
        replace h2 : alloc_sharing_each_8.r1 K x425 ((Kd.nth (.slice (.int .i64)) p3 0).length : Int) (p3.length : Int) p0 p1 p3 p4 (alloc_sharing_each_8.l1 K x425 ((Kd.nth (.slice (.int .i64)) p3 0).length : Int) (p3.length : Int) p0 p1 p3 p4 n) x614 x615 x616 x617 = some z2 := h2
        refine TC_seq ?_
        refine TC_reg ?_
        refine TL_ev env 1 rfl ⟨⟨tv, ⟨tv, tv⟩⟩, tv⟩ ?_
        refine TL_end ?_
        refine TE_go ?_
        refine TC_seq ?_
        refine TC_cond rfl (fun hb => ?_) (fun hb => ?_)
        · replace h2 := bif_t h2 hb
          refine TC_skip ?_
          refine TE_go ?_
          refine TC_seq ?_
          obtain ⟨z3, h3, h2⟩ := bnd h2
          refine TC_cut (α := Int × Int × (List (Int)) × (List (Int))) (fun s => z3 = .inl s) (fun s => [(0, .p 0 0), (1, .fn 136 [.p 1 0, .p 2 0]), (4, .int .i64 x425), (12, .int .i64 ((Kd.nth (.slice (.int .i64)) p3 0).length : Int)), (13, .int .i64 x425), (20, .int .i64 (p3.length : Int)), (21, .int .i64 s.1)]) (fun s => [(0, some (.cells [.int .i64 p0, .int .i64 p1, .int .i64 s.2.1, .im (.slice (.slice (.int .i64))) p3, .hd 3 2])), (1, some (.cells [.p 0 0])), (2, some (.cells [.bool p4])), (3, some (.cells [.sl 4, .sl 5])), (4, some (.rows (.int .i64) s.2.2.1)), (5, some (.rows (.int .i64) s.2.2.2))]) ?_ ?_
          · refine TC_blk ?_
            refine TC_seq ?_
            refine TC_reg ?_
            refine TL_ev env 2 rfl ⟨tv, ⟨tv, tv⟩⟩ ?_
            refine TL_end ?_
            refine TE_go ?_
            refine TC_seq ?_
            refine nums h3 (fun hx h3 => ?_) (fun h3 => ?_)
            · refine TC_num 21 0 hx rfl ?_
              refine TC_num 23 0 hx rfl ?_
              refine TC_num 5 0 hx rfl ?_
              refine TC_renw (A' := [(0, .p 0 0), (1, .fn 136 [.p 1 0, .p 2 0]), (4, .int .i64 _), (5, .int .i64 0), (12, .int .i64 _), (13, .int .i64 _), (20, .int .i64 _), (21, .int .i64 0)]) (L' := [(0, some (.cells [.int .i64 _, .int .i64 _, .int .i64 _, .im (.slice (.slice (.int .i64))) _, .hd 3 2])), (1, some (.cells [.p 0 0])), (2, some (.cells [.bool _])), (3, some (.cells [.sl 4, .sl 5])), (4, some (.rows (.int .i64) _)), (5, some (.rows (.int .i64) _))]) [] ⟨rfl, rfl, rfl, rfl, rfl, rfl, rfl, rfl, tv⟩ ⟨rfl, rfl, rfl, rfl, rfl, rfl, tv⟩ rfl ?_
              refine TC_drawR ⟨_, fun i => ([[], [], [1], [2, 1], [3, 2, 1], [], [5, 4, 3, 2, 1], [6, 5, 4, 3, 2, 1], [], [8, 7, 6, 5, 4, 3, 2, 1], [9, 8, 7, 6, 5, 4, 3, 2, 1], [], [11], [12, 11], [13, 12, 11], [], [15, 14, 13, 12, 11], [16, 15, 14, 13, 12, 11], [], [18, 17, 16, 15, 14, 13, 12, 11], [19, 18, 17, 16, 15, 14, 13, 12, 11, 10, 9, 8, 7, 6, 5, 4, 3, 2, 1, 0], [20, 19, 18, 17, 16, 15, 14, 13, 12, 11, 10, 9, 8, 7, 6, 5, 4, 3, 2, 1, 0]] : List (List Nat)).getD i [], fun i => ([[], [], [], [], [], [], [], [], [], [], [], [], [], [], [], [], [], [], [], [], [0, 1, 2, 3, 4, 5], []] : List (List Nat)).getD i [], fun i => ([[], [], [], [], [], [], [], [], [], [], [], [], [], [], [], [], [], [], [], [], [], []] : List (List Nat)).getD i []⟩ (fun i => ([[], [], [], [], [], [], [], [], [], [], [], [], [], [], [], [], [], [], [], [], [], []] : List (List Nat)).getD i []) (by kernel_rfl) (by kernel_rfl) ?_
              refine AJR_ev env 1 rfl (Nat.le_of_ble_eq_true rfl) rfl tv ?_
              refine AJR_ev env 2 rfl (Nat.le_of_ble_eq_true rfl) rfl tv ?_
              refine AJR_ev env 3 rfl (Nat.le_of_ble_eq_true rfl) rfl tv ?_
              refine AJR_ev env 4 rfl (Nat.le_of_ble_eq_true rfl) rfl tv ?_
              refine AJR_ev env 5 rfl (Nat.le_of_ble_eq_true rfl) rfl ⟨tv, tv⟩ ?_
              refine AJR_ev env 6 rfl (Nat.le_of_ble_eq_true rfl) rfl tv ?_
              obtain ⟨g, h3⟩ := gd_t h3
              refine AJR_ev env 7 rfl (Nat.le_of_ble_eq_true rfl) rfl ⟨tv, ⟨tv, ⟨(by decide), g⟩⟩⟩ ?_
              refine AJR_ev env 8 rfl (Nat.le_of_ble_eq_true rfl) rfl ⟨tv, tv⟩ ?_
              refine AJR_ev env 9 rfl (Nat.le_of_ble_eq_true rfl) rfl tv ?_
              obtain ⟨g, h3⟩ := gd_t h3
              refine AJR_ev env 10 rfl (Nat.le_of_ble_eq_true rfl) rfl ⟨tv, ⟨tv, ⟨g.1, g.2⟩⟩⟩ ?_
              refine AJR_ev env 11 rfl (Nat.le_of_ble_eq_true rfl) rfl ⟨tv, tv⟩ ?_
              refine AJR_ev env 12 rfl (Nat.le_of_ble_eq_true rfl) rfl tv ?_
              refine AJR_ev env 13 rfl (Nat.le_of_ble_eq_true rfl) rfl tv ?_
              refine AJR_ev env 14 rfl (Nat.le_of_ble_eq_true rfl) rfl tv ?_
              refine AJR_ev env 15 rfl (Nat.le_of_ble_eq_true rfl) rfl ⟨tv, tv⟩ ?_
              refine AJR_ev env 16 rfl (Nat.le_of_ble_eq_true rfl) rfl tv ?_
              refine AJR_ev env 17 rfl (Nat.le_of_ble_eq_true rfl) rfl ⟨tv, ⟨tv, ⟨(by decide), (by decide)⟩⟩⟩ ?_
              refine AJR_ev env 18 rfl (Nat.le_of_ble_eq_true rfl) rfl ⟨tv, tv⟩ ?_
              refine AJR_ev env 19 rfl (Nat.le_of_ble_eq_true rfl) rfl tv ?_
              obtain ⟨g, h3⟩ := gd_t h3
              refine AJR_ev env 20 rfl (Nat.le_of_ble_eq_true rfl) rfl ⟨tv, ⟨tv, ⟨g.1, g.2⟩⟩⟩ ?_
              obtain ⟨⟨r646, r647, r648⟩, hr, h3⟩ := bnd h3
              refine AJR_call 21 rfl (Nat.le_of_ble_eq_true rfl) [(0, 4), (1, 1), (2, 2), (3, 0), (4, 3), (5, 5)] rfl (alloc_sharing_more_1_2.ok0 hr) alloc_sharing_more_1_2.fnb rfl ⟨tv, ⟨tv, ⟨tv, tv⟩⟩⟩ rfl ⟨.inr rfl, .inr rfl, .inr rfl, .inr rfl, .inr rfl, .inr rfl, tv⟩ rfl ?_
              refine AJR_ev env 22 rfl (Nat.le_of_ble_eq_true rfl) rfl tv ?_
              refine AJR_end rfl rfl rfl ?_
              refine TE_go ?_
              refine TC_cond rfl (fun hb => ?_) (fun hb => ?_)
              · replace h3 := bif_t h3 hb
                refine TC_ret ?_
                refine tbr ?_
                refine tsr ?_
                refine tsr ?_
                refine tsr ?_
                refine tbr ?_
                refine tsr ?_
                refine tbr ?_
                refine tsr ?_
                refine tsr ?_
                refine tbr ?_
                refine tsr ?_
                obtain rfl := sinj h3
                obtain rfl := sinj h2
                obtain rfl := sinj h1
                obtain rfl := sinj h0
                exact TE_ret env rfl tv ⟨.inr rfl, .inr rfl, .inr rfl, .inr rfl, .inr rfl, .inr rfl, tv⟩
              · replace h3 := bif_f h3 hb
                refine TC_skip ?_
                refine tbn ?_
                obtain rfl := sinj h3
                refine tsn ?_
                exact SP_ren [] (_, _, _, _) rfl ⟨rfl, rfl, rfl, rfl, rfl, rfl, rfl, tv⟩ ⟨rfl, rfl, rfl, rfl, rfl, rfl, tv⟩ rfl
            · refine nums h3 (fun hx h3 => ?_) (fun h3 => ?_)
              · refine TC_num 21 1 hx rfl ?_
                refine TC_num 23 1 hx rfl ?_
                refine TC_num 5 1 hx rfl ?_
                refine TC_renw (A' := [(0, .p 0 0), (1, .fn 136 [.p 1 0, .p 2 0]), (4, .int .i64 _), (5, .int .i64 1), (12, .int .i64 _), (13, .int .i64 _), (20, .int .i64 _), (21, .int .i64 1)]) (L' := [(0, some (.cells [.int .i64 _, .int .i64 _, .int .i64 _, .im (.slice (.slice (.int .i64))) _, .hd 3 2])), (1, some (.cells [.p 0 0])), (2, some (.cells [.bool _])), (3, some (.cells [.sl 4, .sl 5])), (4, some (.rows (.int .i64) _)), (5, some (.rows (.int .i64) _))]) [] ⟨rfl, rfl, rfl, rfl, rfl, rfl, rfl, rfl, tv⟩ ⟨rfl, rfl, rfl, rfl, rfl, rfl, tv⟩ rfl ?_
                refine TC_drawR ⟨_, fun i => ([[], [], [1], [2, 1], [3, 2, 1], [], [5, 4, 3, 2, 1], [6, 5, 4, 3, 2, 1], [], [8, 7, 6, 5, 4, 3, 2, 1], [9, 8, 7, 6, 5, 4, 3, 2, 1], [], [11], [12, 11], [13, 12, 11], [], [15, 14, 13, 12, 11], [16, 15, 14, 13, 12, 11], [], [18, 17, 16, 15, 14, 13, 12, 11], [19, 18, 17, 16, 15, 14, 13, 12, 11, 10, 9, 8, 7, 6, 5, 4, 3, 2, 1, 0], [20, 19, 18, 17, 16, 15, 14, 13, 12, 11, 10, 9, 8, 7, 6, 5, 4, 3, 2, 1, 0]] : List (List Nat)).getD i [], fun i => ([[], [], [], [], [], [], [], [], [], [], [], [], [], [], [], [], [], [], [], [], [0, 1, 2, 3, 4, 5], []] : List (List Nat)).getD i [], fun i => ([[], [], [], [], [], [], [], [], [], [], [], [], [], [], [], [], [], [], [], [], [], []] : List (List Nat)).getD i []⟩ (fun i => ([[], [], [], [], [], [], [], [], [], [], [], [], [], [], [], [], [], [], [], [], [], []] : List (List Nat)).getD i []) (by kernel_rfl) (by kernel_rfl) ?_
                refine AJR_ev env 1 rfl (Nat.le_of_ble_eq_true rfl) rfl tv ?_
                refine AJR_ev env 2 rfl (Nat.le_of_ble_eq_true rfl) rfl tv ?_
                refine AJR_ev env 3 rfl (Nat.le_of_ble_eq_true rfl) rfl tv ?_
                refine AJR_ev env 4 rfl (Nat.le_of_ble_eq_true rfl) rfl tv ?_
                refine AJR_ev env 5 rfl (Nat.le_of_ble_eq_true rfl) rfl ⟨tv, tv⟩ ?_
                refine AJR_ev env 6 rfl (Nat.le_of_ble_eq_true rfl) rfl tv ?_
                obtain ⟨g, h3⟩ := gd_t h3
                refine AJR_ev env 7 rfl (Nat.le_of_ble_eq_true rfl) rfl ⟨tv, ⟨tv, ⟨(by decide), g⟩⟩⟩ ?_
                refine AJR_ev env 8 rfl (Nat.le_of_ble_eq_true rfl) rfl ⟨tv, tv⟩ ?_
                refine AJR_ev env 9 rfl (Nat.le_of_ble_eq_true rfl) rfl tv ?_
                obtain ⟨g, h3⟩ := gd_t h3
                refine AJR_ev env 10 rfl (Nat.le_of_ble_eq_true rfl) rfl ⟨tv, ⟨tv, ⟨g.1, g.2⟩⟩⟩ ?_
                refine AJR_ev env 11 rfl (Nat.le_of_ble_eq_true rfl) rfl ⟨tv, tv⟩ ?_
                refine AJR_ev env 12 rfl (Nat.le_of_ble_eq_true rfl) rfl tv ?_
                refine AJR_ev env 13 rfl (Nat.le_of_ble_eq_true rfl) rfl tv ?_
                refine AJR_ev env 14 rfl (Nat.le_of_ble_eq_true rfl) rfl tv ?_
                refine AJR_ev env 15 rfl (Nat.le_of_ble_eq_true rfl) rfl ⟨tv, tv⟩ ?_
                refine AJR_ev env 16 rfl (Nat.le_of_ble_eq_true rfl) rfl tv ?_
                refine AJR_ev env 17 rfl (Nat.le_of_ble_eq_true rfl) rfl ⟨tv, ⟨tv, ⟨(by decide), (by decide)⟩⟩⟩ ?_
                refine AJR_ev env 18 rfl (Nat.le_of_ble_eq_true rfl) rfl ⟨tv, tv⟩ ?_
                refine AJR_ev env 19 rfl (Nat.le_of_ble_eq_true rfl) rfl tv ?_
                obtain ⟨g, h3⟩ := gd_t h3
                refine AJR_ev env 20 rfl (Nat.le_of_ble_eq_true rfl) rfl ⟨tv, ⟨tv, ⟨g.1, g.2⟩⟩⟩ ?_
                obtain ⟨⟨r651, r652, r653⟩, hr, h3⟩ := bnd h3
                refine AJR_call 21 rfl (Nat.le_of_ble_eq_true rfl) [(0, 5), (1, 1), (2, 2), (3, 0), (4, 3), (5, 4)] rfl (alloc_sharing_more_1_3.ok0 hr) alloc_sharing_more_1_3.fnb rfl ⟨tv, ⟨tv, ⟨tv, tv⟩⟩⟩ rfl ⟨.inr rfl, .inr rfl, .inr rfl, .inr rfl, .inr rfl, .inr rfl, tv⟩ rfl ?_
                refine AJR_ev env 22 rfl (Nat.le_of_ble_eq_true rfl) rfl tv ?_
                refine AJR_end rfl rfl rfl ?_
                refine TE_go ?_
                refine TC_cond rfl (fun hb => ?_) (fun hb => ?_)
                · replace h3 := bif_t h3 hb
                  refine TC_ret ?_
                  refine tbr ?_
                  refine tsr ?_
                  refine tsr ?_
                  refine tsr ?_
                  refine tbr ?_
                  refine tsr ?_
                  refine tbr ?_
                  refine tsr ?_
                  refine tsr ?_
                  refine tbr ?_
                  refine tsr ?_
                  obtain rfl := sinj h3
                  obtain rfl := sinj h2
                  obtain rfl := sinj h1
                  obtain rfl := sinj h0
                  exact TE_ret env rfl tv ⟨.inr rfl, .inr rfl, .inr rfl, .inr rfl, .inr rfl, .inr rfl, tv⟩
                · replace h3 := bif_f h3 hb
                  refine TC_skip ?_
                  refine tbn ?_
                  obtain rfl := sinj h3
                  refine tsn ?_
                  exact SP_ren [] (_, _, _, _) rfl ⟨rfl, rfl, rfl, rfl, rfl, rfl, rfl, tv⟩ ⟨rfl, rfl, rfl, rfl, rfl, rfl, tv⟩ rfl
              · exact (nsome h3).elim
          · rintro ⟨x639, x640, x641, x642⟩ rfl
            refine TE_go ?_
            refine TC_reg ?_
            refine TL_ev env 2 rfl ⟨⟨tv, ⟨tv, tv⟩⟩, ⟨tv, tv⟩⟩ ?_
            refine TL_end ?_
            refine tsn ?_
            exact TE_nextr [] n (Nat.lt_succ_self n) (_, _, _, _) h2 ⟨rfl, rfl, rfl, rfl, rfl, rfl, rfl, tv⟩ ⟨rfl, rfl, rfl, rfl, rfl, rfl, tv⟩ rfl
        · replace h2 := bif_f h2 hb
          refine TC_exit ?_
          refine tsx ?_
          refine tsx ?_
          refine tbe ?_
          obtain rfl := sinj h2
          refine tsn ?_
          exact SP_ren [] (_, _, _) rfl ⟨rfl, rfl, rfl, rfl, tv⟩ ⟨rfl, rfl, rfl, rfl, rfl, rfl, tv⟩ rfl
      · rintro ⟨x591, x592, x593⟩ rfl
        refine tbn ?_
        refine TE_go ?_
        refine TC_reg ?_
        refine TL_ev env 2 rfl ⟨⟨tv, ⟨tv, tv⟩⟩, ⟨tv, tv⟩⟩ ?_
        refine TL_end ?_
        refine tsn ?_
        exact TE_nextr [] n (Nat.lt_succ_self n) (_, _, _, _) h1 ⟨rfl, rfl, rfl, rfl, tv⟩ ⟨rfl, rfl, rfl, rfl, rfl, rfl, tv⟩ rfl
    · replace h1 := bif_f h1 hb
      refine TC_exit ?_
      refine tsx ?_
      refine tsx ?_
      refine tbe ?_
      obtain rfl := sinj h1
      refine tsn ?_
      exact SP_ren [] (_, _, _) rfl tv ⟨rfl, rfl, rfl, rfl, rfl, rfl, tv⟩ rfl
  · rintro ⟨x342, x343, x344⟩ rfl
    obtain rfl := sinj h0
    exact TE_end env rfl tv ⟨.inr rfl, .inr rfl, .inr rfl, .inr rfl, .inr rfl, .inr rfl, tv⟩
theorem alloc_sharing_each_8.ok0 {K : Nat} {p0 : Int} {p1 : Int} {p2 : Int} {p3 : List (List (Int))} {p4 : Bool} {p5 : List (Int)} {p6 : List (Int)} {q0 : Int} {q1 : List (Int)} {q2 : List (Int)} (h0 : alloc_sharing_each_8 K p0 p1 p2 p3 p4 p5 p6 = some (q0, q1, q2)) : Fn Try.prog 104 [.p 0 0, .fn 136 [.p 1 0, .p 2 0]] [(0, some (.cells [.int .i64 p0, .int .i64 p1, .int .i64 p2, .im (.slice (.slice (.int .i64))) p3, .hd 3 2])), (1, some (.cells [.p 0 0])), (2, some (.cells [.bool p4])), (3, some (.cells [.sl 4, .sl 5])), (4, some (.rows (.int .i64) p5)), (5, some (.rows (.int .i64) p6))] (.tup []) [(0, some (.cells [.int .i64 p0, .int .i64 p1, .int .i64 q0, .im (.slice (.slice (.int .i64))) p3, .hd 3 2])), (1, some (.cells [.p 0 0])), (2, some (.cells [.bool p4])), (3, some (.cells [.sl 4, .sl 5])), (4, some (.rows (.int .i64) q1)), (5, some (.rows (.int .i64) q2))] := alloc_sharing_each_8.ok h0
theorem alloc_sharing_each_8.fnb : fnb Try.prog 104 = true := fnb_of Try.func104 rfl
def alloc_sharing_more_2.res (_p0 : Bool) (_p1 : Int) (_p2 : Int) (_p3 : Int) (_p4 : List (List (Int))) (_p5 : List (Int)) (_p6 : List (Int)) : Int × (List (Int)) × (List (Int)) → MV
  | (_, _, _) => .tup []
def alloc_sharing_more_2.out (_p0 : Bool) (p1 : Int) (p2 : Int) (_p3 : Int) (p4 : List (List (Int))) (_p5 : List (Int)) (_p6 : List (Int)) : Int × (List (Int)) × (List (Int)) → List (Nat × Option MObj)
  | (q0, q1, q2) => [(0, some (.cells [.int .i64 p1, .int .i64 p2, .int .i64 q0, .im (.slice (.slice (.int .i64))) p4, .hd 1 2])), (1, some (.cells [.sl 2, .sl 3])), (2, some (.rows (.int .i64) q1)), (3, some (.rows (.int .i64) q2))]
theorem alloc_sharing_more_2.ok {K : Nat} {p0 : Bool} {p1 : Int} {p2 : Int} {p3 : Int} {p4 : List (List (Int))} {p5 : List (Int)} {p6 : List (Int)} {r : Int × (List (Int)) × (List (Int))} (h0 : alloc_sharing_more_2 K p0 p1 p2 p3 p4 p5 p6 = some r) : Fn Try.prog 106 [.p 0 0, .bool p0] [(0, some (.cells [.int .i64 p1, .int .i64 p2, .int .i64 p3, .im (.slice (.slice (.int .i64))) p4, .hd 1 2])), (1, some (.cells [.sl 2, .sl 3])), (2, some (.rows (.int .i64) p5)), (3, some (.rows (.int .i64) p6))] (alloc_sharing_more_2.res p0 p1 p2 p3 p4 p5 p6 r) (alloc_sharing_more_2.out p0 p1 p2 p3 p4 p5 p6 r) := by
  refine Fn_of Try.func106 rfl (Nat.le_of_ble_eq_true rfl) fun Γ => ?_
  refine TC_seq ?_
  refine TC_reg ?_
  refine TL_ev env 2 rfl ⟨tv, ⟨tv, tv⟩⟩ ?_
  refine TL_end ?_
  refine TE_go ?_
  refine TC_reg ?_
  refine TL_ev env 2 rfl ⟨⟨tv, tv⟩, ⟨⟨tv, ⟨tv, tv⟩⟩, tv⟩⟩ ?_
  obtain ⟨⟨r4, r5, r6⟩, hr, h0⟩ := bnd h0
  refine TL_callB [(0, 0), (1, 1002), (2, 1003), (3, 1), (4, 2), (5, 3)] (alloc_sharing_each_8.ok0 hr) alloc_sharing_each_8.fnb rfl ⟨tv, ⟨tv, ⟨tv, tv⟩⟩⟩ rfl ⟨.inr rfl, .inr rfl, .inr rfl, .inr rfl, .inr rfl, .inr rfl, tv⟩ rfl ?_
  refine TL_end ?_
  obtain rfl := sinj h0
  exact TE_end env rfl tv ⟨.inr rfl, .inr rfl, .inr rfl, .inr rfl, tv⟩
theorem alloc_sharing_more_2.ok0 {K : Nat} {p0 : Bool} {p1 : Int} {p2 : Int} {p3 : Int} {p4 : List (List (Int))} {p5 : List (Int)} {p6 : List (Int)} {q0 : Int} {q1 : List (Int)} {q2 : List (Int)} (h0 : alloc_sharing_more_2 K p0 p1 p2 p3 p4 p5 p6 = some (q0, q1, q2)) : Fn Try.prog 106 [.p 0 0, .bool p0] [(0, some (.cells [.int .i64 p1, .int .i64 p2, .int .i64 p3, .im (.slice (.slice (.int .i64))) p4, .hd 1 2])), (1, some (.cells [.sl 2, .sl 3])), (2, some (.rows (.int .i64) p5)), (3, some (.rows (.int .i64) p6))] (.tup []) [(0, some (.cells [.int .i64 p1, .int .i64 p2, .int .i64 q0, .im (.slice (.slice (.int .i64))) p4, .hd 1 2])), (1, some (.cells [.sl 2, .sl 3])), (2, some (.rows (.int .i64) q1)), (3, some (.rows (.int .i64) q2))] := alloc_sharing_more_2.ok h0
theorem alloc_sharing_more_2.fnb : fnb Try.prog 106 = true := fnb_of Try.func106 rfl
def alloc_Share.res (_p0 : Int) (_p1 : Int) (_p2 : Int) (_p3 : Int) (_p4 : Int) (_p5 : Int) (_p6 : Int) (_p7 : Int) (_p8 : Int) (_p9 : Int) (_p10 : List (List (Int))) : (Int) ⊕ ((List (List (Int)))) → MV
  | .inl q0 => .tup [.nils, .int .i64 q0]
  | .inr q0 => .tup [.im (.slice (.slice (.int .i64))) q0, .int .i64 0]
def alloc_Share.out (_p0 : Int) (_p1 : Int) (_p2 : Int) (_p3 : Int) (_p4 : Int) (_p5 : Int) (_p6 : Int) (_p7 : Int) (_p8 : Int) (_p9 : Int) (_p10 : List (List (Int))) : (Int) ⊕ ((List (List (Int)))) → List (Nat × Option MObj)
  | .inl _ => []
  | .inr _ => []
theorem alloc_Share.ok {K : Nat} {p0 : Int} {p1 : Int} {p2 : Int} {p3 : Int} {p4 : Int} {p5 : Int} {p6 : Int} {p7 : Int} {p8 : Int} {p9 : Int} {p10 : List (List (Int))} {r : (Int) ⊕ ((List (List (Int))))} (h0 : alloc_Share K p0 p1 p2 p3 p4 p5 p6 p7 p8 p9 p10 = some r) : Fn Try.prog 53 [.agg [.int .i64 p0, .int .i64 p1, .int .i64 p2, .int .i64 p3, .int .i64 p4, .int .i64 p5, .int .i64 p6, .int .i64 p7, .int .i64 p8, .int .i64 p9], .im (.slice (.slice (.int .i64))) p10] [] (alloc_Share.res p0 p1 p2 p3 p4 p5 p6 p7 p8 p9 p10 r) (alloc_Share.out p0 p1 p2 p3 p4 p5 p6 p7 p8 p9 p10 r) := by
  refine Fn_of Try.func53 rfl (Nat.le_of_ble_eq_true rfl) fun Γ => ?_
  refine TC_seq ?_
  refine TC_reg ?_
  refine TL_ev env 3 rfl ⟨tv, ⟨tv, ⟨tv, tv⟩⟩⟩ ?_
  refine TL_end ?_
  refine TE_go ?_
  refine TC_seq ?_
  refine TC_reg ?_
  refine TL_ev env 2 rfl ⟨⟨tv, tv⟩, ⟨tv, tv⟩⟩ ?_
  obtain ⟨z, hr, h0⟩ := bnd h0
  rcases z with r62 | r63
  · refine TL_callB [] (alloc_Needs.ok0 hr) alloc_Needs.fnb rfl ⟨tv, ⟨tv, ⟨tv, tv⟩⟩⟩ rfl tv rfl ?_
    refine TL_ev env 5 rfl ⟨tv, ⟨tv, ⟨tv, ⟨tv, ⟨tv, tv⟩⟩⟩⟩⟩ ?_
    refine TL_end ?_
    refine TE_go ?_
    refine TC_seq ?_
    refine TC_seq ?_
    refine TC_reg ?_
    refine TL_ev env 2 rfl ⟨tv, ⟨⟨tv, ⟨tv, tv⟩⟩, tv⟩⟩ ?_
    refine TL_end ?_
    refine TE_go ?_
    refine TC_cond rfl (fun hb => ?_) (fun hb => ?_)
    · replace h0 := bif_t h0 hb
      refine TC_seq ?_
      refine TC_reg ?_
      refine TL_ev env 3 rfl ⟨tv, ⟨tv, ⟨tv, tv⟩⟩⟩ ?_
      refine TL_end ?_
      refine TE_go ?_
      refine TC_ret ?_
      refine tsr ?_
      obtain rfl := sinj h0
      exact TE_ret env rfl tv tv
    · replace h0 := bif_f h0 hb
      refine TC_skip ?_
      refine TE_go ?_
      refine TC_seq ?_
      refine nums h0 (fun hx h0 => ?_) (fun h0 => ?_)
      · refine TC_numC 1002 2 1 hx rfl rfl ?_
        refine TC_renw (A' := [(2, .p 1002 0), (6, .nils)]) (L' := [(1002, some (.cells [.int .i64 _, .int .i64 _, .int .i64 1, .int .i64 _, .int .i64 _, .int .i64 _, .int .i64 _, .int .i64 _, .int .i64 _, .int .i64 _]))]) [] ⟨rfl, rfl, tv⟩ ⟨rfl, tv⟩ rfl ?_
        refine TC_drawR ⟨_, fun i => ([[], [0], [], [], [3], [4, 3], [5, 4, 3, 2, 1, 0], [6, 5, 4, 3, 2, 1, 0], [], [8, 7, 6, 5, 4, 3, 2, 1, 0]] : List (List Nat)).getD i [], fun i => ([[], [], [], [], [], [1024], [], [1026], [1008], [1008]] : List (List Nat)).getD i [], fun i => ([[], [], [], [], [], [1024], [], [1026], [1008], []] : List (List Nat)).getD i []⟩ (fun i => ([[1008, 1024], [1008, 1024], [1008, 1024], [1008], [1008], [1008], [1008], [1008], [1024, 1026], []] : List (List Nat)).getD i []) (by kernel_rfl) (by kernel_rfl) ?_
        refine AJR_ev env 1 rfl (Nat.le_of_ble_eq_true rfl) rfl tv ?_
        refine AJR_ev env 2 rfl (Nat.le_of_ble_eq_true rfl) rfl ⟨tv, tv⟩ ?_
        refine AJR_ev env 3 rfl (Nat.le_of_ble_eq_true rfl) rfl tv ?_
        refine AJR_ev env 4 rfl (Nat.le_of_ble_eq_true rfl) rfl tv ?_
        refine AJR_ev env 5 rfl (Nat.le_of_ble_eq_true rfl) rfl ⟨tv, tv⟩ ?_
        refine AJR_ev env 6 rfl (Nat.le_of_ble_eq_true rfl) rfl ⟨tv, tv⟩ ?_
        refine AJR_ev env 7 rfl (Nat.le_of_ble_eq_true rfl) rfl ⟨tv, ⟨tv, ⟨tv, ⟨tv, tv⟩⟩⟩⟩ ?_
        refine AJR_ev env 8 rfl (Nat.le_of_ble_eq_true rfl) rfl tv ?_
        refine AJR_ev env 9 rfl (Nat.le_of_ble_eq_true rfl) rfl tv ?_
        refine AJR_ev env 10 rfl (Nat.le_of_ble_eq_true rfl) rfl ⟨tv, tv⟩ ?_
        refine AJR_end rfl rfl rfl ?_
        refine TE_ownC 1024 0 600240 (.int .i64) rfl rfl (by decide) rfl rfl ?_
        refine TE_go ?_
        refine TC_seq ?_
        refine TC_seq ?_
        refine TC_reg ?_
        refine TL_ev env 6 rfl ⟨⟨tv, tv⟩, ⟨tv, ⟨tv, ⟨⟨tv, tv⟩, ⟨⟨tv, tv⟩, ⟨tv, tv⟩⟩⟩⟩⟩⟩ ?_
        refine TL_end ?_
        refine TE_go ?_
        obtain ⟨z1, h1, h0⟩ := bnd h0
        refine TC_cut (α := (List (Int))) (fun s => z1 = s) (fun s => [(8, .p 12600 0)]) (fun s => [(12600, some (.cells [.p 12601 0])), (12601, some (.cells [.int .i64 p7, .int .i64 (-99), .int .i64 0, .nils, .hd 12602 1])), (12602, some (.cells [.sl 12603])), (12603, some (.rows (.int .i64) s))]) ?_ ?_
        · refine TC_blk ?_
          refine TC_loop (α := Int × (List (Int))) (fun n s => alloc_Share.l0 K p0 p1 p3 p4 p5 p6 p7 p8 p9 n s.1 s.2 = some z1) (fun s => [(2, .p 12800 0), (8, .p 12801 0), (31, .int .i64 1), (32, .int .i64 s.1)]) (fun s => [(12800, some (.cells [.int .i64 p0, .int .i64 p1, .int .i64 1, .int .i64 p3, .int .i64 p4, .int .i64 p5, .int .i64 p6, .int .i64 p7, .int .i64 p8, .int .i64 p9])), (12801, some (.cells [.p 12802 0])), (12802, some (.cells [.int .i64 p7, .int .i64 (-99), .int .i64 0, .nils, .hd 12803 1])), (12803, some (.cells [.sl 12804])), (12804, some (.rows (.int .i64) s.2))]) K ?_ ?_
          · exact SP_ren [(12800, 1002), (12801, 1008), (12802, 1026), (12803, 1024), (12804, 600240)] (_, _) h1 ⟨rfl, rfl, rfl, rfl, tv⟩ ⟨rfl, rfl, rfl, rfl, rfl, tv⟩ rfl
          rintro n ⟨x69, x70⟩ h1
          rcases n with _ | n
          · exact (nsome h1).elim
          replace h1 : alloc_Share.r0 K p0 p1 p3 p4 p5 p6 p7 p8 p9 (alloc_Share.l0 K p0 p1 p3 p4 p5 p6 p7 p8 p9 n) x69 x70 = some z1 := h1
          refine TC_seq ?_
          refine TC_reg ?_
          refine TL_ev env 1 rfl ⟨⟨tv, ⟨tv, tv⟩⟩, tv⟩ ?_
          refine TL_end ?_
          refine TE_go ?_
          refine TC_seq ?_
          refine TC_cond rfl (fun hb => ?_) (fun hb => ?_)
          · replace h1 := bif_t h1 hb
            refine TC_skip ?_
            refine TE_go ?_
            refine TC_seq ?_
            refine TC_blk ?_
            refine TC_seq ?_
            refine TC_reg ?_
            refine TL_ev env 2 rfl ⟨tv, ⟨tv, tv⟩⟩ ?_
            refine TL_end ?_
            refine TE_go ?_
            refine nums h1 (fun hx h1 => ?_) (fun h1 => ?_)
            · refine TC_num 32 0 hx rfl ?_
              refine TC_num 34 0 hx rfl ?_
              refine TC_num 9 0 hx rfl ?_
              refine TC_renw (A' := [(2, .p 12800 0), (8, .p 12801 0), (9, .int .i64 0), (31, .int .i64 1), (32, .int .i64 0)]) (L' := [(12800, some (.cells [.int .i64 _, .int .i64 _, .int .i64 1, .int .i64 _, .int .i64 _, .int .i64 _, .int .i64 _, .int .i64 _, .int .i64 _, .int .i64 _])), (12801, some (.cells [.p 12802 0])), (12802, some (.cells [.int .i64 _, .int .i64 (-99), .int .i64 0, .nils, .hd 12803 1])), (12803, some (.cells [.sl 12804])), (12804, some (.rows (.int .i64) _))]) [] ⟨rfl, rfl, rfl, rfl, rfl, tv⟩ ⟨rfl, rfl, rfl, rfl, rfl, tv⟩ rfl ?_
              refine TC_drawR ⟨_, fun i => ([[], [0], [1, 0], [2, 1, 0], [], [], [5], [6, 5], [7, 6, 5, 4, 3, 2, 1, 0], [8, 7, 6, 5, 4, 3, 2, 1, 0]] : List (List Nat)).getD i [], fun i => ([[], [], [], [], [], [], [], [1042], [], [12803]] : List (List Nat)).getD i [], fun i => ([[], [], [], [], [], [], [], [1042], [], []] : List (List Nat)).getD i []⟩ (fun i => ([[1042], [1042], [1042], [1042], [1042], [], [], [], [], []] : List (List Nat)).getD i []) (by kernel_rfl) (by kernel_rfl) ?_
              refine AJR_ev env 1 rfl (Nat.le_of_ble_eq_true rfl) rfl ⟨tv, tv⟩ ?_
              refine AJR_ev env 2 rfl (Nat.le_of_ble_eq_true rfl) rfl tv ?_
              refine AJR_ev env 3 rfl (Nat.le_of_ble_eq_true rfl) rfl tv ?_
              refine AJR_ev env 4 rfl (Nat.le_of_ble_eq_true rfl) rfl ⟨tv, tv⟩ ?_
              refine AJR_ev env 5 rfl (Nat.le_of_ble_eq_true rfl) rfl tv ?_
              refine AJR_ev env 6 rfl (Nat.le_of_ble_eq_true rfl) rfl tv ?_
              refine AJR_ev env 7 rfl (Nat.le_of_ble_eq_true rfl) rfl ⟨tv, tv⟩ ?_
              obtain ⟨g, h1⟩ := gd_t h1
              refine AJR_ev env 8 rfl (Nat.le_of_ble_eq_true rfl) rfl ⟨tv, ⟨tv, ⟨g.1, ⟨g.2.1, g.2.2⟩⟩⟩⟩ ?_
              refine AJR_ev env 9 rfl (Nat.le_of_ble_eq_true rfl) rfl ⟨tv, ⟨tv, ⟨(by decide), (by decide)⟩⟩⟩ ?_
              refine AJR_ev env 10 rfl (Nat.le_of_ble_eq_true rfl) rfl ⟨tv, tv⟩ ?_
              refine AJR_end rfl rfl rfl ?_
              refine tbn ?_
              refine TE_go ?_
              refine TC_reg ?_
              refine TL_ev env 2 rfl ⟨⟨tv, ⟨tv, tv⟩⟩, ⟨tv, tv⟩⟩ ?_
              refine TL_end ?_
              refine tsn ?_
              exact TE_nextr [(12800, 12800), (12801, 12801), (12802, 12802), (12803, 12803), (12804, 1042)] n (Nat.lt_succ_self n) (_, _) h1 ⟨rfl, rfl, rfl, rfl, tv⟩ ⟨rfl, rfl, rfl, rfl, rfl, tv⟩ rfl
            · exact (nsome h1).elim
          · replace h1 := bif_f h1 hb
            refine TC_exit ?_
            refine tsx ?_
            refine tsx ?_
            refine tbe ?_
            obtain rfl := sinj h1
            refine tsn ?_
            exact SP_ren [(12600, 12801), (12601, 12802), (12602, 12803), (12603, 12804)] _ rfl ⟨rfl, tv⟩ ⟨rfl, rfl, rfl, rfl, tv⟩ rfl
        · rintro x68 hz
          obtain rfl := hz.symm
          refine TE_go ?_
          refine TC_seq ?_
          refine TC_reg ?_
          refine TL_ev env 1 rfl ⟨⟨tv, tv⟩, tv⟩ ?_
          exact (nsome h0).elim
      · refine nums h0 (fun hx h0 => ?_) (fun h0 => ?_)
        · refine TC_numC 1002 2 2 hx rfl rfl ?_
          refine TC_renw (A' := [(2, .p 1002 0), (6, .nils)]) (L' := [(1002, some (.cells [.int .i64 _, .int .i64 _, .int .i64 2, .int .i64 _, .int .i64 _, .int .i64 _, .int .i64 _, .int .i64 _, .int .i64 _, .int .i64 _]))]) [] ⟨rfl, rfl, tv⟩ ⟨rfl, tv⟩ rfl ?_
          refine TC_drawR ⟨_, fun i => ([[], [0], [], [], [3], [4, 3], [5, 4, 3, 2, 1, 0], [6, 5, 4, 3, 2, 1, 0], [], [8, 7, 6, 5, 4, 3, 2, 1, 0]] : List (List Nat)).getD i [], fun i => ([[], [], [], [], [], [1024], [], [1026], [1008], [1008]] : List (List Nat)).getD i [], fun i => ([[], [], [], [], [], [1024], [], [1026], [1008], []] : List (List Nat)).getD i []⟩ (fun i => ([[1008, 1024], [1008, 1024], [1008, 1024], [1008], [1008], [1008], [1008], [1008], [1024, 1026], []] : List (List Nat)).getD i []) (by kernel_rfl) (by kernel_rfl) ?_
          refine AJR_ev env 1 rfl (Nat.le_of_ble_eq_true rfl) rfl tv ?_
          refine AJR_ev env 2 rfl (Nat.le_of_ble_eq_true rfl) rfl ⟨tv, tv⟩ ?_
          refine AJR_ev env 3 rfl (Nat.le_of_ble_eq_true rfl) rfl tv ?_
          refine AJR_ev env 4 rfl (Nat.le_of_ble_eq_true rfl) rfl tv ?_
          refine AJR_ev env 5 rfl (Nat.le_of_ble_eq_true rfl) rfl ⟨tv, tv⟩ ?_
          refine AJR_ev env 6 rfl (Nat.le_of_ble_eq_true rfl) rfl ⟨tv, tv⟩ ?_
          refine AJR_ev env 7 rfl (Nat.le_of_ble_eq_true rfl) rfl ⟨tv, ⟨tv, ⟨tv, ⟨tv, tv⟩⟩⟩⟩ ?_
          refine AJR_ev env 8 rfl (Nat.le_of_ble_eq_true rfl) rfl tv ?_
          refine AJR_ev env 9 rfl (Nat.le_of_ble_eq_true rfl) rfl tv ?_
          refine AJR_ev env 10 rfl (Nat.le_of_ble_eq_true rfl) rfl ⟨tv, tv⟩ ?_
          refine AJR_end rfl rfl rfl ?_
          refine TE_ownC 1024 0 600240 (.int .i64) rfl rfl (by decide) rfl rfl ?_
          refine TE_ownC 1024 1 600241 (.int .i64) rfl rfl (by decide) rfl rfl ?_
          refine TE_go ?_
          refine TC_seq ?_
          refine TC_seq ?_
          refine TC_reg ?_
          refine TL_ev env 6 rfl ⟨⟨tv, tv⟩, ⟨tv, ⟨tv, ⟨⟨tv, tv⟩, ⟨⟨tv, tv⟩, ⟨tv, tv⟩⟩⟩⟩⟩⟩ ?_
          refine TL_end ?_
          refine TE_go ?_
          obtain ⟨z1, h1, h0⟩ := bnd h0
          refine TC_cut (α := (List (Int)) × (List (Int))) (fun s => z1 = s) (fun s => [(8, .p 13600 0)]) (fun s => [(13600, some (.cells [.p 13601 0])), (13601, some (.cells [.int .i64 p7, .int .i64 (-99), .int .i64 0, .nils, .hd 13602 2])), (13602, some (.cells [.sl 13603, .sl 13604])), (13603, some (.rows (.int .i64) s.1)), (13604, some (.rows (.int .i64) s.2))]) ?_ ?_
          · refine TC_blk ?_
            refine TC_loop (α := Int × (List (Int)) × (List (Int))) (fun n s => alloc_Share.l1 K p0 p1 p3 p4 p5 p6 p7 p8 p9 n s.1 s.2.1 s.2.2 = some z1) (fun s => [(2, .p 14000 0), (8, .p 14001 0), (31, .int .i64 2), (32, .int .i64 s.1)]) (fun s => [(14000, some (.cells [.int .i64 p0, .int .i64 p1, .int .i64 2, .int .i64 p3, .int .i64 p4, .int .i64 p5, .int .i64 p6, .int .i64 p7, .int .i64 p8, .int .i64 p9])), (14001, some (.cells [.p 14002 0])), (14002, some (.cells [.int .i64 p7, .int .i64 (-99), .int .i64 0, .nils, .hd 14003 2])), (14003, some (.cells [.sl 14004, .sl 14005])), (14004, some (.rows (.int .i64) s.2.1)), (14005, some (.rows (.int .i64) s.2.2))]) K ?_ ?_
            · exact SP_ren [(14000, 1002), (14001, 1008), (14002, 1026), (14003, 1024), (14004, 600240), (14005, 600241)] (_, _, _) h1 ⟨rfl, rfl, rfl, rfl, tv⟩ ⟨rfl, rfl, rfl, rfl, rfl, rfl, tv⟩ rfl
            rintro n ⟨x96, x97, x98⟩ h1
            rcases n with _ | n
            · exact (nsome h1).elim
            replace h1 : alloc_Share.r1 K p0 p1 p3 p4 p5 p6 p7 p8 p9 (alloc_Share.l1 K p0 p1 p3 p4 p5 p6 p7 p8 p9 n) x96 x97 x98 = some z1 := h1
            refine TC_seq ?_
            refine TC_reg ?_
            refine TL_ev env 1 rfl ⟨⟨tv, ⟨tv, tv⟩⟩, tv⟩ ?_
            refine TL_end ?_
            refine TE_go ?_
            refine TC_seq ?_
            refine TC_cond rfl (fun hb => ?_) (fun hb => ?_)
            · replace h1 := bif_t h1 hb
              refine TC_skip ?_
              refine TE_go ?_
              refine TC_seq ?_
              obtain ⟨z2, h2, h1⟩ := bnd h1
              refine TC_cut (α := Int × (List (Int)) × (List (Int))) (fun s => z2 = s) (fun s => [(2, .p 14300 0), (8, .p 14301 0), (31, .int .i64 2), (32, .int .i64 s.1)]) (fun s => [(14300, some (.cells [.int .i64 p0, .int .i64 p1, .int .i64 2, .int .i64 p3, .int .i64 p4, .int .i64 p5, .int .i64 p6, .int .i64 p7, .int .i64 p8, .int .i64 p9])), (14301, some (.cells [.p 14302 0])), (14302, some (.cells [.int .i64 p7, .int .i64 (-99), .int .i64 0, .nils, .hd 14303 2])), (14303, some (.cells [.sl 14304, .sl 14305])), (14304, some (.rows (.int .i64) s.2.1)), (14305, some (.rows (.int .i64) s.2.2))]) ?_ ?_
              · refine TC_blk ?_
                refine TC_seq ?_
                refine TC_reg ?_
                refine TL_ev env 2 rfl ⟨tv, ⟨tv, tv⟩⟩ ?_
                refine TL_end ?_
                refine TE_go ?_
                refine nums h2 (fun hx h2 => ?_) (fun h2 => ?_)
                · refine TC_num 32 0 hx rfl ?_
                  refine TC_num 34 0 hx rfl ?_
                  refine TC_num 9 0 hx rfl ?_
                  refine TC_renw (A' := [(2, .p 14000 0), (8, .p 14001 0), (9, .int .i64 0), (31, .int .i64 2), (32, .int .i64 0)]) (L' := [(14000, some (.cells [.int .i64 _, .int .i64 _, .int .i64 2, .int .i64 _, .int .i64 _, .int .i64 _, .int .i64 _, .int .i64 _, .int .i64 _, .int .i64 _])), (14001, some (.cells [.p 14002 0])), (14002, some (.cells [.int .i64 _, .int .i64 (-99), .int .i64 0, .nils, .hd 14003 2])), (14003, some (.cells [.sl 14004, .sl 14005])), (14004, some (.rows (.int .i64) _)), (14005, some (.rows (.int .i64) _))]) [] ⟨rfl, rfl, rfl, rfl, rfl, tv⟩ ⟨rfl, rfl, rfl, rfl, rfl, rfl, tv⟩ rfl ?_
                  refine TC_drawR ⟨_, fun i => ([[], [0], [1, 0], [2, 1, 0], [], [], [5], [6, 5], [7, 6, 5, 4, 3, 2, 1, 0], [8, 7, 6, 5, 4, 3, 2, 1, 0]] : List (List Nat)).getD i [], fun i => ([[], [], [], [], [], [], [], [1042], [], [14003]] : List (List Nat)).getD i [], fun i => ([[], [], [], [], [], [], [], [1042], [], []] : List (List Nat)).getD i []⟩ (fun i => ([[1042], [1042], [1042], [1042], [1042], [], [], [], [], []] : List (List Nat)).getD i []) (by kernel_rfl) (by kernel_rfl) ?_
                  refine AJR_ev env 1 rfl (Nat.le_of_ble_eq_true rfl) rfl ⟨tv, tv⟩ ?_
                  refine AJR_ev env 2 rfl (Nat.le_of_ble_eq_true rfl) rfl tv ?_
                  refine AJR_ev env 3 rfl (Nat.le_of_ble_eq_true rfl) rfl tv ?_
                  refine AJR_ev env 4 rfl (Nat.le_of_ble_eq_true rfl) rfl ⟨tv, tv⟩ ?_
                  refine AJR_ev env 5 rfl (Nat.le_of_ble_eq_true rfl) rfl tv ?_
                  refine AJR_ev env 6 rfl (Nat.le_of_ble_eq_true rfl) rfl tv ?_
                  refine AJR_ev env 7 rfl (Nat.le_of_ble_eq_true rfl) rfl ⟨tv, tv⟩ ?_
                  obtain ⟨g, h2⟩ := gd_t h2
                  refine AJR_ev env 8 rfl (Nat.le_of_ble_eq_true rfl) rfl ⟨tv, ⟨tv, ⟨g.1, ⟨g.2.1, g.2.2⟩⟩⟩⟩ ?_
                  refine AJR_ev env 9 rfl (Nat.le_of_ble_eq_true rfl) rfl ⟨tv, ⟨tv, ⟨(by decide), (by decide)⟩⟩⟩ ?_
                  refine AJR_ev env 10 rfl (Nat.le_of_ble_eq_true rfl) rfl ⟨tv, tv⟩ ?_
                  refine AJR_end rfl rfl rfl ?_
                  refine tbn ?_
                  obtain rfl := sinj h2
                  refine tsn ?_
                  exact SP_ren [(14300, 14000), (14301, 14001), (14302, 14002), (14303, 14003), (14304, 1042), (14305, 14005)] (_, _, _) rfl ⟨rfl, rfl, rfl, rfl, tv⟩ ⟨rfl, rfl, rfl, rfl, rfl, rfl, tv⟩ rfl
                · refine nums h2 (fun hx h2 => ?_) (fun h2 => ?_)
                  · refine TC_num 32 1 hx rfl ?_
                    refine TC_num 34 1 hx rfl ?_
                    refine TC_num 9 1 hx rfl ?_
                    refine TC_renw (A' := [(2, .p 14000 0), (8, .p 14001 0), (9, .int .i64 1), (31, .int .i64 2), (32, .int .i64 1)]) (L' := [(14000, some (.cells [.int .i64 _, .int .i64 _, .int .i64 2, .int .i64 _, .int .i64 _, .int .i64 _, .int .i64 _, .int .i64 _, .int .i64 _, .int .i64 _])), (14001, some (.cells [.p 14002 0])), (14002, some (.cells [.int .i64 _, .int .i64 (-99), .int .i64 0, .nils, .hd 14003 2])), (14003, some (.cells [.sl 14004, .sl 14005])), (14004, some (.rows (.int .i64) _)), (14005, some (.rows (.int .i64) _))]) [] ⟨rfl, rfl, rfl, rfl, rfl, tv⟩ ⟨rfl, rfl, rfl, rfl, rfl, rfl, tv⟩ rfl ?_
                    refine TC_drawR ⟨_, fun i => ([[], [0], [1, 0], [2, 1, 0], [], [], [5], [6, 5], [7, 6, 5, 4, 3, 2, 1, 0], [8, 7, 6, 5, 4, 3, 2, 1, 0]] : List (List Nat)).getD i [], fun i => ([[], [], [], [], [], [], [], [1042], [], [14003]] : List (List Nat)).getD i [], fun i => ([[], [], [], [], [], [], [], [1042], [], []] : List (List Nat)).getD i []⟩ (fun i => ([[1042], [1042], [1042], [1042], [1042], [], [], [], [], []] : List (List Nat)).getD i []) (by kernel_rfl) (by kernel_rfl) ?_
                    refine AJR_ev env 1 rfl (Nat.le_of_ble_eq_true rfl) rfl ⟨tv, tv⟩ ?_
                    refine AJR_ev env 2 rfl (Nat.le_of_ble_eq_true rfl) rfl tv ?_
                    refine AJR_ev env 3 rfl (Nat.le_of_ble_eq_true rfl) rfl tv ?_
                    refine AJR_ev env 4 rfl (Nat.le_of_ble_eq_true rfl) rfl ⟨tv, tv⟩ ?_
                    refine AJR_ev env 5 rfl (Nat.le_of_ble_eq_true rfl) rfl tv ?_
                    refine AJR_ev env 6 rfl (Nat.le_of_ble_eq_true rfl) rfl tv ?_
                    refine AJR_ev env 7 rfl (Nat.le_of_ble_eq_true rfl) rfl ⟨tv, tv⟩ ?_
                    obtain ⟨g, h2⟩ := gd_t h2
                    refine AJR_ev env 8 rfl (Nat.le_of_ble_eq_true rfl) rfl ⟨tv, ⟨tv, ⟨g.1, ⟨g.2.1, g.2.2⟩⟩⟩⟩ ?_
                    refine AJR_ev env 9 rfl (Nat.le_of_ble_eq_true rfl) rfl ⟨tv, ⟨tv, ⟨(by decide), (by decide)⟩⟩⟩ ?_
                    refine AJR_ev env 10 rfl (Nat.le_of_ble_eq_true rfl) rfl ⟨tv, tv⟩ ?_
                    refine AJR_end rfl rfl rfl ?_
                    refine tbn ?_
                    obtain rfl := sinj h2
                    refine tsn ?_
                    exact SP_ren [(14300, 14000), (14301, 14001), (14302, 14002), (14303, 14003), (14304, 14004), (14305, 1042)] (_, _, _) rfl ⟨rfl, rfl, rfl, rfl, tv⟩ ⟨rfl, rfl, rfl, rfl, rfl, rfl, tv⟩ rfl
                  · exact (nsome h2).elim
              · rintro ⟨x106, x107, x108⟩ rfl
                refine TE_go ?_
                refine TC_reg ?_
                refine TL_ev env 2 rfl ⟨⟨tv, ⟨tv, tv⟩⟩, ⟨tv, tv⟩⟩ ?_
                refine TL_end ?_
                refine tsn ?_
                exact TE_nextr [(14000, 14300), (14001, 14301), (14002, 14302), (14003, 14303), (14004, 14304), (14005, 14305)] n (Nat.lt_succ_self n) (_, _, _) h1 ⟨rfl, rfl, rfl, rfl, tv⟩ ⟨rfl, rfl, rfl, rfl, rfl, rfl, tv⟩ rfl
            · replace h1 := bif_f h1 hb
              refine TC_exit ?_
              refine tsx ?_
              refine tsx ?_
              refine tbe ?_
              obtain rfl := sinj h1
              refine tsn ?_
              exact SP_ren [(13600, 14001), (13601, 14002), (13602, 14003), (13603, 14004), (13604, 14005)] (_, _) rfl ⟨rfl, tv⟩ ⟨rfl, rfl, rfl, rfl, rfl, tv⟩ rfl
          · rintro ⟨x89, x90⟩ rfl
            refine TE_go ?_
            refine TC_seq ?_
            refine TC_reg ?_
            refine TL_ev env 1 rfl ⟨⟨tv, tv⟩, tv⟩ ?_
            exact (nsome h0).elim
        · exact (nsome h0).elim
  · refine TL_callB [] (alloc_Needs.ok1 hr) alloc_Needs.fnb rfl ⟨tv, ⟨tv, ⟨tv, tv⟩⟩⟩ rfl tv rfl ?_
    refine TL_ev env 5 rfl ⟨tv, ⟨tv, ⟨tv, ⟨tv, ⟨tv, tv⟩⟩⟩⟩⟩ ?_
    refine TL_end ?_
    refine TE_go ?_
    refine TC_seq ?_
    refine TC_seq ?_
    refine TC_reg ?_
    refine TL_ev env 2 rfl ⟨tv, ⟨⟨tv, ⟨tv, tv⟩⟩, tv⟩⟩ ?_
    refine TL_end ?_
    refine TE_go ?_
    refine TC_cond rfl (fun hb => ?_) (fun hb => ?_)
    · first | exact (ftf hb).elim | exact (tff hb).elim | exact absurd hb (by decide)
    · refine TC_skip ?_
      refine TE_go ?_
      refine TC_seq ?_
      refine nums h0 (fun hx h0 => ?_) (fun h0 => ?_)
      · refine TC_numC 1002 2 1 hx rfl rfl ?_
        refine TC_renw (A' := [(2, .p 1002 0), (6, .im (.slice (.slice (.int .i64))) _)]) (L' := [(1002, some (.cells [.int .i64 _, .int .i64 _, .int .i64 1, .int .i64 _, .int .i64 _, .int .i64 _, .int .i64 _, .int .i64 _, .int .i64 _, .int .i64 _]))]) [] ⟨rfl, rfl, tv⟩ ⟨rfl, tv⟩ rfl ?_
        refine TC_drawR ⟨_, fun i => ([[], [0], [], [], [3], [4, 3], [5, 4, 3, 2, 1, 0], [6, 5, 4, 3, 2, 1, 0], [], [8, 7, 6, 5, 4, 3, 2, 1, 0]] : List (List Nat)).getD i [], fun i => ([[], [], [], [], [], [1024], [], [1026], [1008], [1008]] : List (List Nat)).getD i [], fun i => ([[], [], [], [], [], [1024], [], [1026], [1008], []] : List (List Nat)).getD i []⟩ (fun i => ([[1008, 1024], [1008, 1024], [1008, 1024], [1008], [1008], [1008], [1008], [1008], [1024, 1026], []] : List (List Nat)).getD i []) (by kernel_rfl) (by kernel_rfl) ?_
        refine AJR_ev env 1 rfl (Nat.le_of_ble_eq_true rfl) rfl tv ?_
        refine AJR_ev env 2 rfl (Nat.le_of_ble_eq_true rfl) rfl ⟨tv, tv⟩ ?_
        refine AJR_ev env 3 rfl (Nat.le_of_ble_eq_true rfl) rfl tv ?_
        refine AJR_ev env 4 rfl (Nat.le_of_ble_eq_true rfl) rfl tv ?_
        refine AJR_ev env 5 rfl (Nat.le_of_ble_eq_true rfl) rfl ⟨tv, tv⟩ ?_
        refine AJR_ev env 6 rfl (Nat.le_of_ble_eq_true rfl) rfl ⟨tv, tv⟩ ?_
        refine AJR_ev env 7 rfl (Nat.le_of_ble_eq_true rfl) rfl ⟨tv, ⟨tv, ⟨tv, ⟨tv, tv⟩⟩⟩⟩ ?_
        refine AJR_ev env 8 rfl (Nat.le_of_ble_eq_true rfl) rfl tv ?_
        refine AJR_ev env 9 rfl (Nat.le_of_ble_eq_true rfl) rfl tv ?_
        refine AJR_ev env 10 rfl (Nat.le_of_ble_eq_true rfl) rfl ⟨tv, tv⟩ ?_
        refine AJR_end rfl rfl rfl ?_
        refine TE_ownC 1024 0 600240 (.int .i64) rfl rfl (by decide) rfl rfl ?_
        refine TE_go ?_
        refine TC_seq ?_
        refine TC_seq ?_
        refine TC_reg ?_
        refine TL_ev env 6 rfl ⟨⟨tv, tv⟩, ⟨tv, ⟨tv, ⟨⟨tv, tv⟩, ⟨⟨tv, tv⟩, ⟨tv, tv⟩⟩⟩⟩⟩⟩ ?_
        refine TL_end ?_
        refine TE_go ?_
        obtain ⟨z1, h1, h0⟩ := bnd h0
        refine TC_cut (α := (List (Int))) (fun s => z1 = s) (fun s => [(8, .p 14700 0)]) (fun s => [(14700, some (.cells [.p 14701 0])), (14701, some (.cells [.int .i64 p7, .int .i64 (-99), .int .i64 0, .im (.slice (.slice (.int .i64))) r63, .hd 14702 1])), (14702, some (.cells [.sl 14703])), (14703, some (.rows (.int .i64) s))]) ?_ ?_
        · refine TC_blk ?_
          refine TC_loop (α := Int × (List (Int))) (fun n s => alloc_Share.l2 K p0 p1 p3 p4 p5 p6 p7 p8 p9 r63 n s.1 s.2 = some z1) (fun s => [(2, .p 14900 0), (8, .p 14901 0), (31, .int .i64 1), (32, .int .i64 s.1)]) (fun s => [(14900, some (.cells [.int .i64 p0, .int .i64 p1, .int .i64 1, .int .i64 p3, .int .i64 p4, .int .i64 p5, .int .i64 p6, .int .i64 p7, .int .i64 p8, .int .i64 p9])), (14901, some (.cells [.p 14902 0])), (14902, some (.cells [.int .i64 p7, .int .i64 (-99), .int .i64 0, .im (.slice (.slice (.int .i64))) r63, .hd 14903 1])), (14903, some (.cells [.sl 14904])), (14904, some (.rows (.int .i64) s.2))]) K ?_ ?_
          · exact SP_ren [(14900, 1002), (14901, 1008), (14902, 1026), (14903, 1024), (14904, 600240)] (_, _) h1 ⟨rfl, rfl, rfl, rfl, tv⟩ ⟨rfl, rfl, rfl, rfl, rfl, tv⟩ rfl
          rintro n ⟨x124, x125⟩ h1
          rcases n with _ | n
          · exact (nsome h1).elim
          replace h1 : alloc_Share.r2 K p0 p1 p3 p4 p5 p6 p7 p8 p9 r63 (alloc_Share.l2 K p0 p1 p3 p4 p5 p6 p7 p8 p9 r63 n) x124 x125 = some z1 := h1
          refine TC_seq ?_
          refine TC_reg ?_
          refine TL_ev env 1 rfl ⟨⟨tv, ⟨tv, tv⟩⟩, tv⟩ ?_
          refine TL_end ?_
          refine TE_go ?_
          refine TC_seq ?_
          refine TC_cond rfl (fun hb => ?_) (fun hb => ?_)
          · replace h1 := bif_t h1 hb
            refine TC_skip ?_
            refine TE_go ?_
            refine TC_seq ?_
            refine TC_blk ?_
            refine TC_seq ?_
            refine TC_reg ?_
            refine TL_ev env 2 rfl ⟨tv, ⟨tv, tv⟩⟩ ?_
            refine TL_end ?_
            refine TE_go ?_
            refine nums h1 (fun hx h1 => ?_) (fun h1 => ?_)
            · refine TC_num 32 0 hx rfl ?_
              refine TC_num 34 0 hx rfl ?_
              refine TC_num 9 0 hx rfl ?_
              refine TC_renw (A' := [(2, .p 14900 0), (8, .p 14901 0), (9, .int .i64 0), (31, .int .i64 1), (32, .int .i64 0)]) (L' := [(14900, some (.cells [.int .i64 _, .int .i64 _, .int .i64 1, .int .i64 _, .int .i64 _, .int .i64 _, .int .i64 _, .int .i64 _, .int .i64 _, .int .i64 _])), (14901, some (.cells [.p 14902 0])), (14902, some (.cells [.int .i64 _, .int .i64 (-99), .int .i64 0, .im (.slice (.slice (.int .i64))) _, .hd 14903 1])), (14903, some (.cells [.sl 14904])), (14904, some (.rows (.int .i64) _))]) [] ⟨rfl, rfl, rfl, rfl, rfl, tv⟩ ⟨rfl, rfl, rfl, rfl, rfl, tv⟩ rfl ?_
              refine TC_drawR ⟨_, fun i => ([[], [0], [1, 0], [2, 1, 0], [], [], [5], [6, 5], [7, 6, 5, 4, 3, 2, 1, 0], [8, 7, 6, 5, 4, 3, 2, 1, 0]] : List (List Nat)).getD i [], fun i => ([[], [], [], [], [], [], [], [1042], [], [14903]] : List (List Nat)).getD i [], fun i => ([[], [], [], [], [], [], [], [1042], [], []] : List (List Nat)).getD i []⟩ (fun i => ([[1042], [1042], [1042], [1042], [1042], [], [], [], [], []] : List (List Nat)).getD i []) (by kernel_rfl) (by kernel_rfl) ?_
              refine AJR_ev env 1 rfl (Nat.le_of_ble_eq_true rfl) rfl ⟨tv, tv⟩ ?_
              refine AJR_ev env 2 rfl (Nat.le_of_ble_eq_true rfl) rfl tv ?_
              refine AJR_ev env 3 rfl (Nat.le_of_ble_eq_true rfl) rfl tv ?_
              refine AJR_ev env 4 rfl (Nat.le_of_ble_eq_true rfl) rfl ⟨tv, tv⟩ ?_
              refine AJR_ev env 5 rfl (Nat.le_of_ble_eq_true rfl) rfl tv ?_
              refine AJR_ev env 6 rfl (Nat.le_of_ble_eq_true rfl) rfl tv ?_
              refine AJR_ev env 7 rfl (Nat.le_of_ble_eq_true rfl) rfl ⟨tv, tv⟩ ?_
              obtain ⟨g, h1⟩ := gd_t h1
              refine AJR_ev env 8 rfl (Nat.le_of_ble_eq_true rfl) rfl ⟨tv, ⟨tv, ⟨g.1, ⟨g.2.1, g.2.2⟩⟩⟩⟩ ?_
              refine AJR_ev env 9 rfl (Nat.le_of_ble_eq_true rfl) rfl ⟨tv, ⟨tv, ⟨(by decide), (by decide)⟩⟩⟩ ?_
              refine AJR_ev env 10 rfl (Nat.le_of_ble_eq_true rfl) rfl ⟨tv, tv⟩ ?_
              refine AJR_end rfl rfl rfl ?_
              refine tbn ?_
              refine TE_go ?_
              refine TC_reg ?_
              refine TL_ev env 2 rfl ⟨⟨tv, ⟨tv, tv⟩⟩, ⟨tv, tv⟩⟩ ?_
              refine TL_end ?_
              refine tsn ?_
              exact TE_nextr [(14900, 14900), (14901, 14901), (14902, 14902), (14903, 14903), (14904, 1042)] n (Nat.lt_succ_self n) (_, _) h1 ⟨rfl, rfl, rfl, rfl, tv⟩ ⟨rfl, rfl, rfl, rfl, rfl, tv⟩ rfl
            · exact (nsome h1).elim
          · replace h1 := bif_f h1 hb
            refine TC_exit ?_
            refine tsx ?_
            refine tsx ?_
            refine tbe ?_
            obtain rfl := sinj h1
            refine tsn ?_
            exact SP_ren [(14700, 14901), (14701, 14902), (14702, 14903), (14703, 14904)] _ rfl ⟨rfl, tv⟩ ⟨rfl, rfl, rfl, rfl, tv⟩ rfl
        · rintro x116 hz
          obtain rfl := hz.symm
          refine TE_go ?_
          refine TC_seq ?_
          refine TC_reg ?_
          refine TL_ev env 1 rfl ⟨⟨tv, tv⟩, tv⟩ ?_
          obtain ⟨⟨r117, r118⟩, hr, h0⟩ := bnd h0
          refine TL_callB [(0, 14701), (1, 14702), (2, 14703)] (alloc_sharing_cut.ok0 hr) alloc_sharing_cut.fnb rfl ⟨tv, ⟨tv, tv⟩⟩ rfl ⟨.inr rfl, .inr rfl, .inr rfl, tv⟩ rfl ?_
          refine TL_end ?_
          refine TE_go ?_
          refine TC_seq ?_
          refine TC_reg ?_
          refine TL_ev env 2 rfl ⟨⟨tv, tv⟩, ⟨⟨tv, tv⟩, tv⟩⟩ ?_
          obtain ⟨r119, hr, h0⟩ := bnd h0
          refine TL_callB [(0, 14701), (1, 14700), (2, 14702), (3, 14703)] (alloc_sharing_each_3.ok0 hr) alloc_sharing_each_3.fnb rfl ⟨tv, ⟨tv, ⟨tv, tv⟩⟩⟩ rfl ⟨.inr rfl, .inr rfl, .inr rfl, .inr rfl, tv⟩ rfl ?_
          refine TL_end ?_
          refine TE_go ?_
          refine TC_seq ?_
          refine TC_reg ?_
          refine TL_ev env 1 rfl ⟨⟨tv, tv⟩, tv⟩ ?_
          obtain ⟨⟨r120, r121⟩, hr, h0⟩ := bnd h0
          refine TL_callB [(0, 14701), (1, 14702), (2, 14703)] (alloc_sharing_more.ok0 hr) alloc_sharing_more.fnb rfl ⟨tv, ⟨tv, ⟨tv, tv⟩⟩⟩ rfl ⟨.inr rfl, .inr rfl, .inr rfl, tv⟩ rfl ?_
          refine TL_end ?_
          refine TE_go ?_
          refine TC_seq ?_
          refine TC_reg ?_
          refine TL_ev env 1 rfl ⟨⟨tv, tv⟩, tv⟩ ?_
          obtain ⟨⟨r122, r123⟩, hr, h0⟩ := bnd h0
          refine TL_callB [(0, 14701), (1, 14702), (2, 14703)] (alloc_sharing_more.ok0 hr) alloc_sharing_more.fnb rfl ⟨tv, ⟨tv, ⟨tv, tv⟩⟩⟩ rfl ⟨.inr rfl, .inr rfl, .inr rfl, tv⟩ rfl ?_
          refine TL_end ?_
          refine TE_go ?_
          refine TC_seq ?_
          refine TC_reg ?_
          refine TL_ev env 6 rfl ⟨⟨tv, tv⟩, ⟨tv, ⟨tv, ⟨⟨tv, tv⟩, ⟨tv, ⟨tv, tv⟩⟩⟩⟩⟩⟩ ?_
          refine TL_end ?_
          refine TE_go ?_
          refine TC_ret ?_
          refine TE_frz 14703 rfl ?_
          refine TE_frh 14702 (.slice (.int .i64)) rfl rfl rfl ?_
          obtain rfl := sinj h0
          exact TE_ret env rfl tv tv
      · refine nums h0 (fun hx h0 => ?_) (fun h0 => ?_)
        · refine TC_numC 1002 2 2 hx rfl rfl ?_
          refine TC_renw (A' := [(2, .p 1002 0), (6, .im (.slice (.slice (.int .i64))) _)]) (L' := [(1002, some (.cells [.int .i64 _, .int .i64 _, .int .i64 2, .int .i64 _, .int .i64 _, .int .i64 _, .int .i64 _, .int .i64 _, .int .i64 _, .int .i64 _]))]) [] ⟨rfl, rfl, tv⟩ ⟨rfl, tv⟩ rfl ?_
          refine TC_drawR ⟨_, fun i => ([[], [0], [], [], [3], [4, 3], [5, 4, 3, 2, 1, 0], [6, 5, 4, 3, 2, 1, 0], [], [8, 7, 6, 5, 4, 3, 2, 1, 0]] : List (List Nat)).getD i [], fun i => ([[], [], [], [], [], [1024], [], [1026], [1008], [1008]] : List (List Nat)).getD i [], fun i => ([[], [], [], [], [], [1024], [], [1026], [1008], []] : List (List Nat)).getD i []⟩ (fun i => ([[1008, 1024], [1008, 1024], [1008, 1024], [1008], [1008], [1008], [1008], [1008], [1024, 1026], []] : List (List Nat)).getD i []) (by kernel_rfl) (by kernel_rfl) ?_
          refine AJR_ev env 1 rfl (Nat.le_of_ble_eq_true rfl) rfl tv ?_
          refine AJR_ev env 2 rfl (Nat.le_of_ble_eq_true rfl) rfl ⟨tv, tv⟩ ?_
          refine AJR_ev env 3 rfl (Nat.le_of_ble_eq_true rfl) rfl tv ?_
          refine AJR_ev env 4 rfl (Nat.le_of_ble_eq_true rfl) rfl tv ?_
          refine AJR_ev env 5 rfl (Nat.le_of_ble_eq_true rfl) rfl ⟨tv, tv⟩ ?_
          refine AJR_ev env 6 rfl (Nat.le_of_ble_eq_true rfl) rfl ⟨tv, tv⟩ ?_
          refine AJR_ev env 7 rfl (Nat.le_of_ble_eq_true rfl) rfl ⟨tv, ⟨tv, ⟨tv, ⟨tv, tv⟩⟩⟩⟩ ?_
          refine AJR_ev env 8 rfl (Nat.le_of_ble_eq_true rfl) rfl tv ?_
          refine AJR_ev env 9 rfl (Nat.le_of_ble_eq_true rfl) rfl tv ?_
          refine AJR_ev env 10 rfl (Nat.le_of_ble_eq_true rfl) rfl ⟨tv, tv⟩ ?_
          refine AJR_end rfl rfl rfl ?_
          refine TE_ownC 1024 0 600240 (.int .i64) rfl rfl (by decide) rfl rfl ?_
          refine TE_ownC 1024 1 600241 (.int .i64) rfl rfl (by decide) rfl rfl ?_
          refine TE_go ?_
          refine TC_seq ?_
          refine TC_seq ?_
          refine TC_reg ?_
          refine TL_ev env 6 rfl ⟨⟨tv, tv⟩, ⟨tv, ⟨tv, ⟨⟨tv, tv⟩, ⟨⟨tv, tv⟩, ⟨tv, tv⟩⟩⟩⟩⟩⟩ ?_
          refine TL_end ?_
          refine TE_go ?_
          obtain ⟨z1, h1, h0⟩ := bnd h0
          refine TC_cut (α := (List (Int)) × (List (Int))) (fun s => z1 = s) (fun s => [(8, .p 15700 0)]) (fun s => [(15700, some (.cells [.p 15701 0])), (15701, some (.cells [.int .i64 p7, .int .i64 (-99), .int .i64 0, .im (.slice (.slice (.int .i64))) r63, .hd 15702 2])), (15702, some (.cells [.sl 15703, .sl 15704])), (15703, some (.rows (.int .i64) s.1)), (15704, some (.rows (.int .i64) s.2))]) ?_ ?_
          · refine TC_blk ?_
            refine TC_loop (α := Int × (List (Int)) × (List (Int))) (fun n s => alloc_Share.l3 K p0 p1 p3 p4 p5 p6 p7 p8 p9 r63 n s.1 s.2.1 s.2.2 = some z1) (fun s => [(2, .p 16100 0), (8, .p 16101 0), (31, .int .i64 2), (32, .int .i64 s.1)]) (fun s => [(16100, some (.cells [.int .i64 p0, .int .i64 p1, .int .i64 2, .int .i64 p3, .int .i64 p4, .int .i64 p5, .int .i64 p6, .int .i64 p7, .int .i64 p8, .int .i64 p9])), (16101, some (.cells [.p 16102 0])), (16102, some (.cells [.int .i64 p7, .int .i64 (-99), .int .i64 0, .im (.slice (.slice (.int .i64))) r63, .hd 16103 2])), (16103, some (.cells [.sl 16104, .sl 16105])), (16104, some (.rows (.int .i64) s.2.1)), (16105, some (.rows (.int .i64) s.2.2))]) K ?_ ?_
            · exact SP_ren [(16100, 1002), (16101, 1008), (16102, 1026), (16103, 1024), (16104, 600240), (16105, 600241)] (_, _, _) h1 ⟨rfl, rfl, rfl, rfl, tv⟩ ⟨rfl, rfl, rfl, rfl, rfl, rfl, tv⟩ rfl
            rintro n ⟨x161, x162, x163⟩ h1
            rcases n with _ | n
            · exact (nsome h1).elim
            replace h1 : alloc_Share.r3 K p0 p1 p3 p4 p5 p6 p7 p8 p9 r63 (alloc_Share.l3 K p0 p1 p3 p4 p5 p6 p7 p8 p9 r63 n) x161 x162 x163 = some z1 := h1
            refine TC_seq ?_
            refine TC_reg ?_
            refine TL_ev env 1 rfl ⟨⟨tv, ⟨tv, tv⟩⟩, tv⟩ ?_
            refine TL_end ?_
            refine TE_go ?_
            refine TC_seq ?_
            refine TC_cond rfl (fun hb => ?_) (fun hb => ?_)
            · replace h1 := bif_t h1 hb
              refine TC_skip ?_
              refine TE_go ?_
              refine TC_seq ?_
              obtain ⟨z2, h2, h1⟩ := bnd h1
              refine TC_cut (α := Int × (List (Int)) × (List (Int))) (fun s => z2 = s) (fun s => [(2, .p 16400 0), (8, .p 16401 0), (31, .int .i64 2), (32, .int .i64 s.1)]) (fun s => [(16400, some (.cells [.int .i64 p0, .int .i64 p1, .int .i64 2, .int .i64 p3, .int .i64 p4, .int .i64 p5, .int .i64 p6, .int .i64 p7, .int .i64 p8, .int .i64 p9])), (16401, some (.cells [.p 16402 0])), (16402, some (.cells [.int .i64 p7, .int .i64 (-99), .int .i64 0, .im (.slice (.slice (.int .i64))) r63, .hd 16403 2])), (16403, some (.cells [.sl 16404, .sl 16405])), (16404, some (.rows (.int .i64) s.2.1)), (16405, some (.rows (.int .i64) s.2.2))]) ?_ ?_
              · refine TC_blk ?_
                refine TC_seq ?_
                refine TC_reg ?_
                refine TL_ev env 2 rfl ⟨tv, ⟨tv, tv⟩⟩ ?_
                refine TL_end ?_
                refine TE_go ?_
                refine nums h2 (fun hx h2 => ?_) (fun h2 => ?_)
                · refine TC_num 32 0 hx rfl ?_
                  refine TC_num 34 0 hx rfl ?_
                  refine TC_num 9 0 hx rfl ?_
                  refine TC_renw (A' := [(2, .p 16100 0), (8, .p 16101 0), (9, .int .i64 0), (31, .int .i64 2), (32, .int .i64 0)]) (L' := [(16100, some (.cells [.int .i64 _, .int .i64 _, .int .i64 2, .int .i64 _, .int .i64 _, .int .i64 _, .int .i64 _, .int .i64 _, .int .i64 _, .int .i64 _])), (16101, some (.cells [.p 16102 0])), (16102, some (.cells [.int .i64 _, .int .i64 (-99), .int .i64 0, .im (.slice (.slice (.int .i64))) _, .hd 16103 2])), (16103, some (.cells [.sl 16104, .sl 16105])), (16104, some (.rows (.int .i64) _)), (16105, some (.rows (.int .i64) _))]) [] ⟨rfl, rfl, rfl, rfl, rfl, tv⟩ ⟨rfl, rfl, rfl, rfl, rfl, rfl, tv⟩ rfl ?_
                  refine TC_drawR ⟨_, fun i => ([[], [0], [1, 0], [2, 1, 0], [], [], [5], [6, 5], [7, 6, 5, 4, 3, 2, 1, 0], [8, 7, 6, 5, 4, 3, 2, 1, 0]] : List (List Nat)).getD i [], fun i => ([[], [], [], [], [], [], [], [1042], [], [16103]] : List (List Nat)).getD i [], fun i => ([[], [], [], [], [], [], [], [1042], [], []] : List (List Nat)).getD i []⟩ (fun i => ([[1042], [1042], [1042], [1042], [1042], [], [], [], [], []] : List (List Nat)).getD i []) (by kernel_rfl) (by kernel_rfl) ?_
                  refine AJR_ev env 1 rfl (Nat.le_of_ble_eq_true rfl) rfl ⟨tv, tv⟩ ?_
                  refine AJR_ev env 2 rfl (Nat.le_of_ble_eq_true rfl) rfl tv ?_
                  refine AJR_ev env 3 rfl (Nat.le_of_ble_eq_true rfl) rfl tv ?_
                  refine AJR_ev env 4 rfl (Nat.le_of_ble_eq_true rfl) rfl ⟨tv, tv⟩ ?_
                  refine AJR_ev env 5 rfl (Nat.le_of_ble_eq_true rfl) rfl tv ?_
                  refine AJR_ev env 6 rfl (Nat.le_of_ble_eq_true rfl) rfl tv ?_
                  refine AJR_ev env 7 rfl (Nat.le_of_ble_eq_true rfl) rfl ⟨tv, tv⟩ ?_
                  obtain ⟨g, h2⟩ := gd_t h2
                  refine AJR_ev env 8 rfl (Nat.le_of_ble_eq_true rfl) rfl ⟨tv, ⟨tv, ⟨g.1, ⟨g.2.1, g.2.2⟩⟩⟩⟩ ?_
                  refine AJR_ev env 9 rfl (Nat.le_of_ble_eq_true rfl) rfl ⟨tv, ⟨tv, ⟨(by decide), (by decide)⟩⟩⟩ ?_
                  refine AJR_ev env 10 rfl (Nat.le_of_ble_eq_true rfl) rfl ⟨tv, tv⟩ ?_
                  refine AJR_end rfl rfl rfl ?_
                  refine tbn ?_
                  obtain rfl := sinj h2
                  refine tsn ?_
                  exact SP_ren [(16400, 16100), (16401, 16101), (16402, 16102), (16403, 16103), (16404, 1042), (16405, 16105)] (_, _, _) rfl ⟨rfl, rfl, rfl, rfl, tv⟩ ⟨rfl, rfl, rfl, rfl, rfl, rfl, tv⟩ rfl
                · refine nums h2 (fun hx h2 => ?_) (fun h2 => ?_)
                  · refine TC_num 32 1 hx rfl ?_
                    refine TC_num 34 1 hx rfl ?_
                    refine TC_num 9 1 hx rfl ?_
                    refine TC_renw (A' := [(2, .p 16100 0), (8, .p 16101 0), (9, .int .i64 1), (31, .int .i64 2), (32, .int .i64 1)]) (L' := [(16100, some (.cells [.int .i64 _, .int .i64 _, .int .i64 2, .int .i64 _, .int .i64 _, .int .i64 _, .int .i64 _, .int .i64 _, .int .i64 _, .int .i64 _])), (16101, some (.cells [.p 16102 0])), (16102, some (.cells [.int .i64 _, .int .i64 (-99), .int .i64 0, .im (.slice (.slice (.int .i64))) _, .hd 16103 2])), (16103, some (.cells [.sl 16104, .sl 16105])), (16104, some (.rows (.int .i64) _)), (16105, some (.rows (.int .i64) _))]) [] ⟨rfl, rfl, rfl, rfl, rfl, tv⟩ ⟨rfl, rfl, rfl, rfl, rfl, rfl, tv⟩ rfl ?_
                    refine TC_drawR ⟨_, fun i => ([[], [0], [1, 0], [2, 1, 0], [], [], [5], [6, 5], [7, 6, 5, 4, 3, 2, 1, 0], [8, 7, 6, 5, 4, 3, 2, 1, 0]] : List (List Nat)).getD i [], fun i => ([[], [], [], [], [], [], [], [1042], [], [16103]] : List (List Nat)).getD i [], fun i => ([[], [], [], [], [], [], [], [1042], [], []] : List (List Nat)).getD i []⟩ (fun i => ([[1042], [1042], [1042], [1042], [1042], [], [], [], [], []] : List (List Nat)).getD i []) (by kernel_rfl) (by kernel_rfl) ?_
                    refine AJR_ev env 1 rfl (Nat.le_of_ble_eq_true rfl) rfl ⟨tv, tv⟩ ?_
                    refine AJR_ev env 2 rfl (Nat.le_of_ble_eq_true rfl) rfl tv ?_
                    refine AJR_ev env 3 rfl (Nat.le_of_ble_eq_true rfl) rfl tv ?_
                    refine AJR_ev env 4 rfl (Nat.le_of_ble_eq_true rfl) rfl ⟨tv, tv⟩ ?_
                    refine AJR_ev env 5 rfl (Nat.le_of_ble_eq_true rfl) rfl tv ?_
                    refine AJR_ev env 6 rfl (Nat.le_of_ble_eq_true rfl) rfl tv ?_
                    refine AJR_ev env 7 rfl (Nat.le_of_ble_eq_true rfl) rfl ⟨tv, tv⟩ ?_
                    obtain ⟨g, h2⟩ := gd_t h2
                    refine AJR_ev env 8 rfl (Nat.le_of_ble_eq_true rfl) rfl ⟨tv, ⟨tv, ⟨g.1, ⟨g.2.1, g.2.2⟩⟩⟩⟩ ?_
                    refine AJR_ev env 9 rfl (Nat.le_of_ble_eq_true rfl) rfl ⟨tv, ⟨tv, ⟨(by decide), (by decide)⟩⟩⟩ ?_
                    refine AJR_ev env 10 rfl (Nat.le_of_ble_eq_true rfl) rfl ⟨tv, tv⟩ ?_
                    refine AJR_end rfl rfl rfl ?_
                    refine tbn ?_
                    obtain rfl := sinj h2
                    refine tsn ?_
                    exact SP_ren [(16400, 16100), (16401, 16101), (16402, 16102), (16403, 16103), (16404, 16104), (16405, 1042)] (_, _, _) rfl ⟨rfl, rfl, rfl, rfl, tv⟩ ⟨rfl, rfl, rfl, rfl, rfl, rfl, tv⟩ rfl
                  · exact (nsome h2).elim
              · rintro ⟨x171, x172, x173⟩ rfl
                refine TE_go ?_
                refine TC_reg ?_
                refine TL_ev env 2 rfl ⟨⟨tv, ⟨tv, tv⟩⟩, ⟨tv, tv⟩⟩ ?_
                refine TL_end ?_
                refine tsn ?_
                exact TE_nextr [(16100, 16400), (16101, 16401), (16102, 16402), (16103, 16403), (16104, 16404), (16105, 16405)] n (Nat.lt_succ_self n) (_, _, _) h1 ⟨rfl, rfl, rfl, rfl, tv⟩ ⟨rfl, rfl, rfl, rfl, rfl, rfl, tv⟩ rfl
            · replace h1 := bif_f h1 hb
              refine TC_exit ?_
              refine tsx ?_
              refine tsx ?_
              refine tbe ?_
              obtain rfl := sinj h1
              refine tsn ?_
              exact SP_ren [(15700, 16101), (15701, 16102), (15702, 16103), (15703, 16104), (15704, 16105)] (_, _) rfl ⟨rfl, tv⟩ ⟨rfl, rfl, rfl, rfl, rfl, tv⟩ rfl
          · rintro ⟨x144, x145⟩ rfl
            refine TE_go ?_
            refine TC_seq ?_
            refine TC_reg ?_
            refine TL_ev env 1 rfl ⟨⟨tv, tv⟩, tv⟩ ?_
            obtain ⟨⟨r146, r147⟩, hr, h0⟩ := bnd h0
            refine TL_callB [(0, 15701), (1, 15702), (2, 15703), (3, 15704)] (alloc_sharing_cut_2.ok0 hr) alloc_sharing_cut_2.fnb rfl ⟨tv, ⟨tv, tv⟩⟩ rfl ⟨.inr rfl, .inr rfl, .inr rfl, .inr rfl, tv⟩ rfl ?_
            refine TL_end ?_
            refine TE_go ?_
            refine TC_seq ?_
            refine TC_reg ?_
            refine TL_ev env 2 rfl ⟨⟨tv, tv⟩, ⟨⟨tv, tv⟩, tv⟩⟩ ?_
            obtain ⟨⟨r148, r149⟩, hr, h0⟩ := bnd h0
            refine TL_callB [(0, 15701), (1, 15700), (2, 15702), (3, 15703), (4, 15704)] (alloc_sharing_each_7.ok0 hr) alloc_sharing_each_7.fnb rfl ⟨tv, ⟨tv, ⟨tv, tv⟩⟩⟩ rfl ⟨.inr rfl, .inr rfl, .inr rfl, .inr rfl, .inr rfl, tv⟩ rfl ?_
            refine TL_end ?_
            refine TE_go ?_
            refine TC_seq ?_
            refine TC_reg ?_
            refine TL_ev env 1 rfl ⟨⟨tv, tv⟩, tv⟩ ?_
            obtain ⟨⟨r150, r151, r152⟩, hr, h0⟩ := bnd h0
            refine TL_callB [(0, 15701), (1, 15702), (2, 15703), (3, 15704)] (alloc_sharing_more_2.ok0 hr) alloc_sharing_more_2.fnb rfl ⟨tv, ⟨tv, ⟨tv, tv⟩⟩⟩ rfl ⟨.inr rfl, .inr rfl, .inr rfl, .inr rfl, tv⟩ rfl ?_
            refine TL_end ?_
            refine TE_go ?_
            refine TC_seq ?_
            refine TC_reg ?_
            refine TL_ev env 1 rfl ⟨⟨tv, tv⟩, tv⟩ ?_
            obtain ⟨⟨r153, r154, r155⟩, hr, h0⟩ := bnd h0
            refine TL_callB [(0, 15701), (1, 15702), (2, 15703), (3, 15704)] (alloc_sharing_more_2.ok0 hr) alloc_sharing_more_2.fnb rfl ⟨tv, ⟨tv, ⟨tv, tv⟩⟩⟩ rfl ⟨.inr rfl, .inr rfl, .inr rfl, .inr rfl, tv⟩ rfl ?_
            refine TL_end ?_
            refine TE_go ?_
            refine TC_seq ?_
            refine TC_reg ?_
            refine TL_ev env 6 rfl ⟨⟨tv, tv⟩, ⟨tv, ⟨tv, ⟨⟨tv, tv⟩, ⟨tv, ⟨tv, tv⟩⟩⟩⟩⟩⟩ ?_
            refine TL_end ?_
            refine TE_go ?_
            refine TC_ret ?_
            refine TE_frz 15703 rfl ?_
            refine TE_frz 15704 rfl ?_
            refine TE_frh 15702 (.slice (.int .i64)) rfl rfl rfl ?_
            obtain rfl := sinj h0
            exact TE_ret env rfl tv tv
        · exact (nsome h0).elim
theorem alloc_Share.ok0 {K : Nat} {p0 : Int} {p1 : Int} {p2 : Int} {p3 : Int} {p4 : Int} {p5 : Int} {p6 : Int} {p7 : Int} {p8 : Int} {p9 : Int} {p10 : List (List (Int))} {q0 : Int} (h0 : alloc_Share K p0 p1 p2 p3 p4 p5 p6 p7 p8 p9 p10 = some (.inl q0)) : Fn Try.prog 53 [.agg [.int .i64 p0, .int .i64 p1, .int .i64 p2, .int .i64 p3, .int .i64 p4, .int .i64 p5, .int .i64 p6, .int .i64 p7, .int .i64 p8, .int .i64 p9], .im (.slice (.slice (.int .i64))) p10] [] (.tup [.nils, .int .i64 q0]) [] := alloc_Share.ok h0
theorem alloc_Share.ok1 {K : Nat} {p0 : Int} {p1 : Int} {p2 : Int} {p3 : Int} {p4 : Int} {p5 : Int} {p6 : Int} {p7 : Int} {p8 : Int} {p9 : Int} {p10 : List (List (Int))} {q0 : List (List (Int))} (h0 : alloc_Share K p0 p1 p2 p3 p4 p5 p6 p7 p8 p9 p10 = some (.inr q0)) : Fn Try.prog 53 [.agg [.int .i64 p0, .int .i64 p1, .int .i64 p2, .int .i64 p3, .int .i64 p4, .int .i64 p5, .int .i64 p6, .int .i64 p7, .int .i64 p8, .int .i64 p9], .im (.slice (.slice (.int .i64))) p10] [] (.tup [.im (.slice (.slice (.int .i64))) q0, .int .i64 0]) [] := alloc_Share.ok h0
theorem alloc_Share.fnb : fnb Try.prog 53 = true := fnb_of Try.func53 rfl
def alloc_may_2.res (_p0 : Int) (_p1 : Int) (_p2 : Int) (_p3 : Int) (_p4 : Int) (_p5 : Int) (_p6 : Int) (_p7 : Int) (_p8 : Int) (_p9 : Int) : Int → MV
  | q0 => .int .i64 q0
def alloc_may_2.out (_p0 : Int) (_p1 : Int) (_p2 : Int) (_p3 : Int) (_p4 : Int) (_p5 : Int) (_p6 : Int) (_p7 : Int) (_p8 : Int) (_p9 : Int) : Int → List (Nat × Option MObj)
  | _ => []
theorem alloc_may_2.ok {K : Nat} {p0 : Int} {p1 : Int} {p2 : Int} {p3 : Int} {p4 : Int} {p5 : Int} {p6 : Int} {p7 : Int} {p8 : Int} {p9 : Int} {r : Int} (h0 : alloc_may_2 K p0 p1 p2 p3 p4 p5 p6 p7 p8 p9 = some r) : Fn Try.prog 101 [.agg [.int .i64 p0, .int .i64 p1, .int .i64 p2, .int .i64 p3, .int .i64 p4, .int .i64 p5, .int .i64 p6, .int .i64 p7, .int .i64 p8, .int .i64 p9], .nils] [] (alloc_may_2.res p0 p1 p2 p3 p4 p5 p6 p7 p8 p9 r) (alloc_may_2.out p0 p1 p2 p3 p4 p5 p6 p7 p8 p9 r) := by
  refine Fn_of Try.func101 rfl (Nat.le_of_ble_eq_true rfl) fun Γ => ?_
  refine TC_seq ?_
  refine TC_reg ?_
  refine TL_ev env 2 rfl ⟨tv, ⟨tv, tv⟩⟩ ?_
  refine TL_end ?_
  refine TE_go ?_
  refine TC_seq ?_
  refine TC_seq ?_
  refine TC_reg ?_
  refine TL_ev env 1 rfl ⟨⟨tv, tv⟩, tv⟩ ?_
  obtain ⟨r2, hr, h0⟩ := bnd h0
  refine TL_callB [] (format_Check.ok0 hr) format_Check.fnb rfl ⟨tv, ⟨tv, tv⟩⟩ rfl tv rfl ?_
  refine TL_ev env 6 rfl ⟨⟨tv, ⟨tv, tv⟩⟩, ⟨tv, ⟨fun eg => tv, ⟨fun eg => ⟨fun e => e, tv⟩, ⟨fun eg => ⟨fun e => e, ⟨tv, tv⟩⟩, ⟨⟨tv, ⟨tv, fun e => e⟩⟩, tv⟩⟩⟩⟩⟩⟩ ?_
  refine TL_end ?_
  refine TE_go ?_
  refine TC_cond rfl (fun hb => ?_) (fun hb => ?_)
  · replace h0 := bif_t h0 hb
    refine TC_seq ?_
    refine TC_reg ?_
    refine TL_ev env 1 rfl ⟨tv, tv⟩ ?_
    refine TL_end ?_
    refine TE_go ?_
    refine TC_ret ?_
    refine tsr ?_
    obtain rfl := sinj h0
    exact TE_ret env rfl tv tv
  · replace h0 := bif_f h0 hb
    refine TC_skip ?_
    refine TE_go ?_
    refine TC_seq ?_
    refine TC_seq ?_
    refine TC_reg ?_
    refine TL_ev env 5 rfl ⟨tv, ⟨⟨tv, tv⟩, ⟨tv, ⟨⟨tv, tv⟩, ⟨⟨tv, ⟨tv, tv⟩⟩, tv⟩⟩⟩⟩⟩ ?_
    refine TL_end ?_
    refine TE_go ?_
    refine TC_cond rfl (fun hb => ?_) (fun hb => ?_)
    · replace h0 := bif_t h0 hb
      refine TC_seq ?_
      refine TC_reg ?_
      refine TL_ev env 1 rfl ⟨tv, tv⟩ ?_
      refine TL_end ?_
      refine TE_go ?_
      refine TC_ret ?_
      refine tsr ?_
      obtain rfl := sinj h0
      exact TE_ret env rfl tv tv
    · replace h0 := bif_f h0 hb
      refine TC_skip ?_
      refine TE_go ?_
      refine TC_seq ?_
      refine TC_seq ?_
      refine TC_reg ?_
      refine TL_ev env 3 rfl ⟨tv, ⟨⟨tv, tv⟩, ⟨tv, tv⟩⟩⟩ ?_
      refine TL_end ?_
      refine TE_go ?_
      obtain ⟨z1, h1, h0⟩ := bnd h0
      refine TC_cut (α := Unit) (fun _ => z1 = ()) (fun _ => []) (fun _ => []) ?_ ?_
      · refine TC_blk ?_
        refine TC_loop (α := Unit) (fun n _ => alloc_may_2.l0 K p0 p1 p2 p3 p4 p5 p6 p7 p8 p9 n = some z1) (fun _ => [(2, .p 10700 0), (22, .nils), (23, .int .i64 0), (24, .int .i64 0)]) (fun _ => [(10700, some (.cells [.int .i64 p0, .int .i64 p1, .int .i64 p2, .int .i64 p3, .int .i64 p4, .int .i64 p5, .int .i64 p6, .int .i64 p7, .int .i64 p8, .int .i64 p9]))]) K ?_ ?_
        · exact SP_ren [(10700, 1002)] () h1 ⟨rfl, rfl, rfl, rfl, tv⟩ ⟨rfl, tv⟩ rfl
        rintro n ⟨⟩ h1
        rcases n with _ | n
        · exact (nsome h1).elim
        replace h1 : alloc_may_2.r0 K p0 p1 p2 p3 p4 p5 p6 p7 p8 p9 (alloc_may_2.l0 K p0 p1 p2 p3 p4 p5 p6 p7 p8 p9 n)  = some z1 := h1
        refine TC_seq ?_
        refine TC_reg ?_
        refine TL_ev env 1 rfl ⟨⟨tv, ⟨tv, tv⟩⟩, tv⟩ ?_
        refine TL_end ?_
        refine TE_go ?_
        refine TC_seq ?_
        refine TC_cond rfl (fun hb => ?_) (fun hb => ?_)
        · first | exact (ftf hb).elim | exact (tff hb).elim | exact absurd hb (by decide)
        · refine TC_exit ?_
          refine tsx ?_
          refine tsx ?_
          refine tbe ?_
          obtain rfl := sinj h1
          refine tsn ?_
          exact SP_ren [] () rfl tv tv rfl
      · rintro ⟨⟩ rfl
        refine TE_go ?_
        refine TC_seq ?_
        refine TC_reg ?_
        refine TL_ev env 1 rfl ⟨tv, tv⟩ ?_
        refine TL_end ?_
        refine TE_go ?_
        refine TC_ret ?_
        obtain rfl := sinj h0
        exact TE_ret env rfl tv tv
theorem alloc_may_2.ok0 {K : Nat} {p0 : Int} {p1 : Int} {p2 : Int} {p3 : Int} {p4 : Int} {p5 : Int} {p6 : Int} {p7 : Int} {p8 : Int} {p9 : Int} {q0 : Int} (h0 : alloc_may_2 K p0 p1 p2 p3 p4 p5 p6 p7 p8 p9 = some q0) : Fn Try.prog 101 [.agg [.int .i64 p0, .int .i64 p1, .int .i64 p2, .int .i64 p3, .int .i64 p4, .int .i64 p5, .int .i64 p6, .int .i64 p7, .int .i64 p8, .int .i64 p9], .nils] [] (.int .i64 q0) [] := alloc_may_2.ok h0
theorem alloc_may_2.fnb : fnb Try.prog 101 = true := fnb_of Try.func101 rfl
def alloc_Needs_2.res (_p0 : Int) (_p1 : Int) (_p2 : Int) (_p3 : Int) (_p4 : Int) (_p5 : Int) (_p6 : Int) (_p7 : Int) (_p8 : Int) (_p9 : Int) : Int → MV
  | q0 => .tup [.nils, .int .i64 q0]
def alloc_Needs_2.out (_p0 : Int) (_p1 : Int) (_p2 : Int) (_p3 : Int) (_p4 : Int) (_p5 : Int) (_p6 : Int) (_p7 : Int) (_p8 : Int) (_p9 : Int) : Int → List (Nat × Option MObj)
  | _ => []
theorem alloc_Needs_2.ok {K : Nat} {p0 : Int} {p1 : Int} {p2 : Int} {p3 : Int} {p4 : Int} {p5 : Int} {p6 : Int} {p7 : Int} {p8 : Int} {p9 : Int} {r : Int} (h0 : alloc_Needs_2 K p0 p1 p2 p3 p4 p5 p6 p7 p8 p9 = some r) : Fn Try.prog 52 [.agg [.int .i64 p0, .int .i64 p1, .int .i64 p2, .int .i64 p3, .int .i64 p4, .int .i64 p5, .int .i64 p6, .int .i64 p7, .int .i64 p8, .int .i64 p9], .nils] [] (alloc_Needs_2.res p0 p1 p2 p3 p4 p5 p6 p7 p8 p9 r) (alloc_Needs_2.out p0 p1 p2 p3 p4 p5 p6 p7 p8 p9 r) := by
  refine Fn_of Try.func52 rfl (Nat.le_of_ble_eq_true rfl) fun Γ => ?_
  refine TC_seq ?_
  refine TC_reg ?_
  refine TL_ev env 3 rfl ⟨tv, ⟨tv, ⟨tv, tv⟩⟩⟩ ?_
  refine TL_end ?_
  refine TE_go ?_
  refine TC_seq ?_
  refine TC_seq ?_
  refine TC_reg ?_
  refine TL_ev env 2 rfl ⟨⟨tv, tv⟩, ⟨tv, tv⟩⟩ ?_
  obtain ⟨r2, hr, h0⟩ := bnd h0
  refine TL_callB [] (alloc_may_2.ok0 hr) alloc_may_2.fnb rfl ⟨tv, ⟨tv, ⟨tv, tv⟩⟩⟩ rfl tv rfl ?_
  refine TL_ev env 1 rfl ⟨tv, tv⟩ ?_
  refine TL_end ?_
  refine TE_go ?_
  refine TC_seq ?_
  refine TC_reg ?_
  refine TL_ev env 2 rfl ⟨tv, ⟨⟨tv, ⟨tv, tv⟩⟩, tv⟩⟩ ?_
  refine TL_end ?_
  refine TE_go ?_
  refine TC_cond rfl (fun hb => ?_) (fun hb => ?_)
  · replace h0 := bif_t h0 hb
    refine TC_seq ?_
    refine TC_reg ?_
    refine TL_ev env 3 rfl ⟨tv, ⟨tv, ⟨tv, tv⟩⟩⟩ ?_
    refine TL_end ?_
    refine TE_go ?_
    refine TC_ret ?_
    refine tsr ?_
    obtain rfl := sinj h0
    exact TE_ret env rfl tv tv
  · replace h0 := bif_f h0 hb
    refine TC_skip ?_
    refine TE_go ?_
    refine TC_seq ?_
    refine TC_reg ?_
    refine TL_ev env 2 rfl ⟨tv, ⟨⟨tv, tv⟩, tv⟩⟩ ?_
    refine nums h0 (fun hx h0 => TL_num 18 1 hx rfl ?_) (fun h0 => ?_)
    · refine TL_ev env 1 rfl ⟨⟨tv, tv⟩, tv⟩ ?_
      refine TL_ownC 1019 0 600190 (.int .i64) rfl rfl (by decide) rfl rfl ?_
      refine TL_ev env 1 rfl ⟨tv, tv⟩ ?_
      refine TL_end ?_
      refine TE_go ?_
      refine TC_seq ?_
      refine TC_seq ?_
      refine TC_reg ?_
      refine TL_ev env 3 rfl ⟨tv, ⟨⟨tv, tv⟩, ⟨tv, tv⟩⟩⟩ ?_
      refine TL_end ?_
      refine TE_go ?_
      obtain ⟨z1, h1, h0⟩ := bnd h0
      refine TC_cut (α := Unit) (fun _ => False) (fun _ => []) (fun _ => []) ?_ ?_
      · refine TC_blk ?_
        refine TC_loop (α := Unit) (fun n _ => alloc_Needs_2.l0 K p0 p1 p2 p3 p4 p5 p6 p7 p8 p9 n = some z1) (fun _ => [(1, .nils), (2, .p 10700 0), (7, .hd 10701 1), (21, .int .i64 1), (22, .int .i64 0)]) (fun _ => [(10700, some (.cells [.int .i64 p0, .int .i64 p1, .int .i64 p2, .int .i64 p3, .int .i64 p4, .int .i64 p5, .int .i64 p6, .int .i64 p7, .int .i64 p8, .int .i64 p9])), (10701, some (.cells [.sl 10702])), (10702, some (.rows (.int .i64) ([] : List (Int))))]) K ?_ ?_
        · exact SP_ren [(10700, 1002), (10701, 1019), (10702, 600190)] () h1 ⟨rfl, rfl, rfl, rfl, rfl, tv⟩ ⟨rfl, rfl, rfl, tv⟩ rfl
        rintro n ⟨⟩ h1
        rcases n with _ | n
        · exact (nsome h1).elim
        replace h1 : alloc_Needs_2.r0 K p0 p1 p2 p3 p4 p5 p6 p7 p8 p9 (alloc_Needs_2.l0 K p0 p1 p2 p3 p4 p5 p6 p7 p8 p9 n)  = some z1 := h1
        refine TC_seq ?_
        refine TC_reg ?_
        refine TL_ev env 1 rfl ⟨⟨tv, ⟨tv, tv⟩⟩, tv⟩ ?_
        refine TL_end ?_
        refine TE_go ?_
        refine TC_seq ?_
        refine TC_cond rfl (fun hb => ?_) (fun hb => ?_)
        · refine TC_skip ?_
          refine TE_go ?_
          refine TC_seq ?_
          refine TC_blk ?_
          refine TC_seq ?_
          refine TC_reg ?_
          refine TL_ev env 2 rfl ⟨tv, ⟨tv, tv⟩⟩ ?_
          refine TL_end ?_
          refine TE_go ?_
          refine TC_seq ?_
          refine TC_reg ?_
          refine TL_ev env 2 rfl ⟨tv, ⟨tv, tv⟩⟩ ?_
          exact (nsome h1).elim
        · first | exact (ftf hb).elim | exact (tff hb).elim | exact absurd hb (by decide)
      · intro _ hf
        exact hf.elim
    · refine nums h0 (fun hx h0 => TL_num 18 2 hx rfl ?_) (fun h0 => ?_)
      · refine TL_ev env 1 rfl ⟨⟨tv, tv⟩, tv⟩ ?_
        refine TL_ownC 1019 0 600190 (.int .i64) rfl rfl (by decide) rfl rfl ?_
        refine TL_ownC 1019 1 600191 (.int .i64) rfl rfl (by decide) rfl rfl ?_
        refine TL_ev env 1 rfl ⟨tv, tv⟩ ?_
        refine TL_end ?_
        refine TE_go ?_
        refine TC_seq ?_
        refine TC_seq ?_
        refine TC_reg ?_
        refine TL_ev env 3 rfl ⟨tv, ⟨⟨tv, tv⟩, ⟨tv, tv⟩⟩⟩ ?_
        refine TL_end ?_
        refine TE_go ?_
        obtain ⟨z1, h1, h0⟩ := bnd h0
        refine TC_cut (α := Unit) (fun _ => False) (fun _ => []) (fun _ => []) ?_ ?_
        · refine TC_blk ?_
          refine TC_loop (α := Unit) (fun n _ => alloc_Needs_2.l1 K p0 p1 p2 p3 p4 p5 p6 p7 p8 p9 n = some z1) (fun _ => [(1, .nils), (2, .p 11100 0), (7, .hd 11101 2), (21, .int .i64 2), (22, .int .i64 0)]) (fun _ => [(11100, some (.cells [.int .i64 p0, .int .i64 p1, .int .i64 p2, .int .i64 p3, .int .i64 p4, .int .i64 p5, .int .i64 p6, .int .i64 p7, .int .i64 p8, .int .i64 p9])), (11101, some (.cells [.sl 11102, .sl 11103])), (11102, some (.rows (.int .i64) ([] : List (Int)))), (11103, some (.rows (.int .i64) ([] : List (Int))))]) K ?_ ?_
          · exact SP_ren [(11100, 1002), (11101, 1019), (11102, 600190), (11103, 600191)] () h1 ⟨rfl, rfl, rfl, rfl, rfl, tv⟩ ⟨rfl, rfl, rfl, rfl, tv⟩ rfl
          rintro n ⟨⟩ h1
          rcases n with _ | n
          · exact (nsome h1).elim
          replace h1 : alloc_Needs_2.r1 K p0 p1 p2 p3 p4 p5 p6 p7 p8 p9 (alloc_Needs_2.l1 K p0 p1 p2 p3 p4 p5 p6 p7 p8 p9 n)  = some z1 := h1
          refine TC_seq ?_
          refine TC_reg ?_
          refine TL_ev env 1 rfl ⟨⟨tv, ⟨tv, tv⟩⟩, tv⟩ ?_
          refine TL_end ?_
          refine TE_go ?_
          refine TC_seq ?_
          refine TC_cond rfl (fun hb => ?_) (fun hb => ?_)
          · refine TC_skip ?_
            refine TE_go ?_
            refine TC_seq ?_
            refine TC_blk ?_
            refine TC_seq ?_
            refine TC_reg ?_
            refine TL_ev env 2 rfl ⟨tv, ⟨tv, tv⟩⟩ ?_
            refine TL_end ?_
            refine TE_go ?_
            refine TC_seq ?_
            refine TC_reg ?_
            refine TL_ev env 2 rfl ⟨tv, ⟨tv, tv⟩⟩ ?_
            exact (nsome h1).elim
          · first | exact (ftf hb).elim | exact (tff hb).elim | exact absurd hb (by decide)
        · intro _ hf
          exact hf.elim
      · exact (nsome h0).elim
theorem alloc_Needs_2.ok0 {K : Nat} {p0 : Int} {p1 : Int} {p2 : Int} {p3 : Int} {p4 : Int} {p5 : Int} {p6 : Int} {p7 : Int} {p8 : Int} {p9 : Int} {q0 : Int} (h0 : alloc_Needs_2 K p0 p1 p2 p3 p4 p5 p6 p7 p8 p9 = some q0) : Fn Try.prog 52 [.agg [.int .i64 p0, .int .i64 p1, .int .i64 p2, .int .i64 p3, .int .i64 p4, .int .i64 p5, .int .i64 p6, .int .i64 p7, .int .i64 p8, .int .i64 p9], .nils] [] (.tup [.nils, .int .i64 q0]) [] := alloc_Needs_2.ok h0
theorem alloc_Needs_2.fnb : fnb Try.prog 52 = true := fnb_of Try.func52 rfl
def alloc_Share_2.res (_p0 : Int) (_p1 : Int) (_p2 : Int) (_p3 : Int) (_p4 : Int) (_p5 : Int) (_p6 : Int) (_p7 : Int) (_p8 : Int) (_p9 : Int) : Int → MV
  | q0 => .tup [.nils, .int .i64 q0]
def alloc_Share_2.out (_p0 : Int) (_p1 : Int) (_p2 : Int) (_p3 : Int) (_p4 : Int) (_p5 : Int) (_p6 : Int) (_p7 : Int) (_p8 : Int) (_p9 : Int) : Int → List (Nat × Option MObj)
  | _ => []
theorem alloc_Share_2.ok {K : Nat} {p0 : Int} {p1 : Int} {p2 : Int} {p3 : Int} {p4 : Int} {p5 : Int} {p6 : Int} {p7 : Int} {p8 : Int} {p9 : Int} {r : Int} (h0 : alloc_Share_2 K p0 p1 p2 p3 p4 p5 p6 p7 p8 p9 = some r) : Fn Try.prog 53 [.agg [.int .i64 p0, .int .i64 p1, .int .i64 p2, .int .i64 p3, .int .i64 p4, .int .i64 p5, .int .i64 p6, .int .i64 p7, .int .i64 p8, .int .i64 p9], .nils] [] (alloc_Share_2.res p0 p1 p2 p3 p4 p5 p6 p7 p8 p9 r) (alloc_Share_2.out p0 p1 p2 p3 p4 p5 p6 p7 p8 p9 r) := by
  refine Fn_of Try.func53 rfl (Nat.le_of_ble_eq_true rfl) fun Γ => ?_
  refine TC_seq ?_
  refine TC_reg ?_
  refine TL_ev env 3 rfl ⟨tv, ⟨tv, ⟨tv, tv⟩⟩⟩ ?_
  refine TL_end ?_
  refine TE_go ?_
  refine TC_seq ?_
  refine TC_reg ?_
  refine TL_ev env 2 rfl ⟨⟨tv, tv⟩, ⟨tv, tv⟩⟩ ?_
  obtain ⟨r23, hr, h0⟩ := bnd h0
  refine TL_callB [] (alloc_Needs_2.ok0 hr) alloc_Needs_2.fnb rfl ⟨tv, ⟨tv, ⟨tv, tv⟩⟩⟩ rfl tv rfl ?_
  refine TL_ev env 5 rfl ⟨tv, ⟨tv, ⟨tv, ⟨tv, ⟨tv, tv⟩⟩⟩⟩⟩ ?_
  refine TL_end ?_
  refine TE_go ?_
  refine TC_seq ?_
  refine TC_seq ?_
  refine TC_reg ?_
  refine TL_ev env 2 rfl ⟨tv, ⟨⟨tv, ⟨tv, tv⟩⟩, tv⟩⟩ ?_
  refine TL_end ?_
  refine TE_go ?_
  refine TC_cond rfl (fun hb => ?_) (fun hb => ?_)
  · replace h0 := bif_t h0 hb
    refine TC_seq ?_
    refine TC_reg ?_
    refine TL_ev env 3 rfl ⟨tv, ⟨tv, ⟨tv, tv⟩⟩⟩ ?_
    refine TL_end ?_
    refine TE_go ?_
    refine TC_ret ?_
    refine tsr ?_
    obtain rfl := sinj h0
    exact TE_ret env rfl tv tv
  · replace h0 := bif_f h0 hb
    refine TC_skip ?_
    refine TE_go ?_
    refine TC_seq ?_
    refine nums h0 (fun hx h0 => ?_) (fun h0 => ?_)
    · refine TC_numC 1002 2 1 hx rfl rfl ?_
      refine TC_renw (A' := [(2, .p 1002 0), (6, .nils)]) (L' := [(1002, some (.cells [.int .i64 _, .int .i64 _, .int .i64 1, .int .i64 _, .int .i64 _, .int .i64 _, .int .i64 _, .int .i64 _, .int .i64 _, .int .i64 _]))]) [] ⟨rfl, rfl, tv⟩ ⟨rfl, tv⟩ rfl ?_
      refine TC_drawR ⟨_, fun i => ([[], [0], [], [], [3], [4, 3], [5, 4, 3, 2, 1, 0], [6, 5, 4, 3, 2, 1, 0], [], [8, 7, 6, 5, 4, 3, 2, 1, 0]] : List (List Nat)).getD i [], fun i => ([[], [], [], [], [], [1024], [], [1026], [1008], [1008]] : List (List Nat)).getD i [], fun i => ([[], [], [], [], [], [1024], [], [1026], [1008], []] : List (List Nat)).getD i []⟩ (fun i => ([[1008, 1024], [1008, 1024], [1008, 1024], [1008], [1008], [1008], [1008], [1008], [1024, 1026], []] : List (List Nat)).getD i []) (by kernel_rfl) (by kernel_rfl) ?_
      refine AJR_ev env 1 rfl (Nat.le_of_ble_eq_true rfl) rfl tv ?_
      refine AJR_ev env 2 rfl (Nat.le_of_ble_eq_true rfl) rfl ⟨tv, tv⟩ ?_
      refine AJR_ev env 3 rfl (Nat.le_of_ble_eq_true rfl) rfl tv ?_
      refine AJR_ev env 4 rfl (Nat.le_of_ble_eq_true rfl) rfl tv ?_
      refine AJR_ev env 5 rfl (Nat.le_of_ble_eq_true rfl) rfl ⟨tv, tv⟩ ?_
      refine AJR_ev env 6 rfl (Nat.le_of_ble_eq_true rfl) rfl ⟨tv, tv⟩ ?_
      refine AJR_ev env 7 rfl (Nat.le_of_ble_eq_true rfl) rfl ⟨tv, ⟨tv, ⟨tv, ⟨tv, tv⟩⟩⟩⟩ ?_
      refine AJR_ev env 8 rfl (Nat.le_of_ble_eq_true rfl) rfl tv ?_
      refine AJR_ev env 9 rfl (Nat.le_of_ble_eq_true rfl) rfl tv ?_
      refine AJR_ev env 10 rfl (Nat.le_of_ble_eq_true rfl) rfl ⟨tv, tv⟩ ?_
      refine AJR_end rfl rfl rfl ?_
      refine TE_ownC 1024 0 600240 (.int .i64) rfl rfl (by decide) rfl rfl ?_
      refine TE_go ?_
      refine TC_seq ?_
      refine TC_seq ?_
      refine TC_reg ?_
      refine TL_ev env 6 rfl ⟨⟨tv, tv⟩, ⟨tv, ⟨tv, ⟨⟨tv, tv⟩, ⟨⟨tv, tv⟩, ⟨tv, tv⟩⟩⟩⟩⟩⟩ ?_
      refine TL_end ?_
      refine TE_go ?_
      obtain ⟨z1, h1, h0⟩ := bnd h0
      refine TC_cut (α := (List (Int))) (fun s => z1 = s) (fun s => [(8, .p 11500 0)]) (fun s => [(11500, some (.cells [.p 11501 0])), (11501, some (.cells [.int .i64 p7, .int .i64 (-99), .int .i64 0, .nils, .hd 11502 1])), (11502, some (.cells [.sl 11503])), (11503, some (.rows (.int .i64) s))]) ?_ ?_
      · refine TC_blk ?_
        refine TC_loop (α := Int × (List (Int))) (fun n s => alloc_Share_2.l0 K p0 p1 p3 p4 p5 p6 p7 p8 p9 n s.1 s.2 = some z1) (fun s => [(2, .p 11700 0), (8, .p 11701 0), (31, .int .i64 1), (32, .int .i64 s.1)]) (fun s => [(11700, some (.cells [.int .i64 p0, .int .i64 p1, .int .i64 1, .int .i64 p3, .int .i64 p4, .int .i64 p5, .int .i64 p6, .int .i64 p7, .int .i64 p8, .int .i64 p9])), (11701, some (.cells [.p 11702 0])), (11702, some (.cells [.int .i64 p7, .int .i64 (-99), .int .i64 0, .nils, .hd 11703 1])), (11703, some (.cells [.sl 11704])), (11704, some (.rows (.int .i64) s.2))]) K ?_ ?_
        · exact SP_ren [(11700, 1002), (11701, 1008), (11702, 1026), (11703, 1024), (11704, 600240)] (_, _) h1 ⟨rfl, rfl, rfl, rfl, tv⟩ ⟨rfl, rfl, rfl, rfl, rfl, tv⟩ rfl
        rintro n ⟨x29, x30⟩ h1
        rcases n with _ | n
        · exact (nsome h1).elim
        replace h1 : alloc_Share_2.r0 K p0 p1 p3 p4 p5 p6 p7 p8 p9 (alloc_Share_2.l0 K p0 p1 p3 p4 p5 p6 p7 p8 p9 n) x29 x30 = some z1 := h1
        refine TC_seq ?_
        refine TC_reg ?_
        refine TL_ev env 1 rfl ⟨⟨tv, ⟨tv, tv⟩⟩, tv⟩ ?_
        refine TL_end ?_
        refine TE_go ?_
        refine TC_seq ?_
        refine TC_cond rfl (fun hb => ?_) (fun hb => ?_)
        · replace h1 := bif_t h1 hb
          refine TC_skip ?_
          refine TE_go ?_
          refine TC_seq ?_
          refine TC_blk ?_
          refine TC_seq ?_
          refine TC_reg ?_
          refine TL_ev env 2 rfl ⟨tv, ⟨tv, tv⟩⟩ ?_
          refine TL_end ?_
          refine TE_go ?_
          refine nums h1 (fun hx h1 => ?_) (fun h1 => ?_)
          · refine TC_num 32 0 hx rfl ?_
            refine TC_num 34 0 hx rfl ?_
            refine TC_num 9 0 hx rfl ?_
            refine TC_renw (A' := [(2, .p 11700 0), (8, .p 11701 0), (9, .int .i64 0), (31, .int .i64 1), (32, .int .i64 0)]) (L' := [(11700, some (.cells [.int .i64 _, .int .i64 _, .int .i64 1, .int .i64 _, .int .i64 _, .int .i64 _, .int .i64 _, .int .i64 _, .int .i64 _, .int .i64 _])), (11701, some (.cells [.p 11702 0])), (11702, some (.cells [.int .i64 _, .int .i64 (-99), .int .i64 0, .nils, .hd 11703 1])), (11703, some (.cells [.sl 11704])), (11704, some (.rows (.int .i64) _))]) [] ⟨rfl, rfl, rfl, rfl, rfl, tv⟩ ⟨rfl, rfl, rfl, rfl, rfl, tv⟩ rfl ?_
            refine TC_drawR ⟨_, fun i => ([[], [0], [1, 0], [2, 1, 0], [], [], [5], [6, 5], [7, 6, 5, 4, 3, 2, 1, 0], [8, 7, 6, 5, 4, 3, 2, 1, 0]] : List (List Nat)).getD i [], fun i => ([[], [], [], [], [], [], [], [1042], [], [11703]] : List (List Nat)).getD i [], fun i => ([[], [], [], [], [], [], [], [1042], [], []] : List (List Nat)).getD i []⟩ (fun i => ([[1042], [1042], [1042], [1042], [1042], [], [], [], [], []] : List (List Nat)).getD i []) (by kernel_rfl) (by kernel_rfl) ?_
            refine AJR_ev env 1 rfl (Nat.le_of_ble_eq_true rfl) rfl ⟨tv, tv⟩ ?_
            refine AJR_ev env 2 rfl (Nat.le_of_ble_eq_true rfl) rfl tv ?_
            refine AJR_ev env 3 rfl (Nat.le_of_ble_eq_true rfl) rfl tv ?_
            refine AJR_ev env 4 rfl (Nat.le_of_ble_eq_true rfl) rfl ⟨tv, tv⟩ ?_
            refine AJR_ev env 5 rfl (Nat.le_of_ble_eq_true rfl) rfl tv ?_
            refine AJR_ev env 6 rfl (Nat.le_of_ble_eq_true rfl) rfl tv ?_
            refine AJR_ev env 7 rfl (Nat.le_of_ble_eq_true rfl) rfl ⟨tv, tv⟩ ?_
            obtain ⟨g, h1⟩ := gd_t h1
            refine AJR_ev env 8 rfl (Nat.le_of_ble_eq_true rfl) rfl ⟨tv, ⟨tv, ⟨g.1, ⟨g.2.1, g.2.2⟩⟩⟩⟩ ?_
            refine AJR_ev env 9 rfl (Nat.le_of_ble_eq_true rfl) rfl ⟨tv, ⟨tv, ⟨(by decide), (by decide)⟩⟩⟩ ?_
            refine AJR_ev env 10 rfl (Nat.le_of_ble_eq_true rfl) rfl ⟨tv, tv⟩ ?_
            refine AJR_end rfl rfl rfl ?_
            refine tbn ?_
            refine TE_go ?_
            refine TC_reg ?_
            refine TL_ev env 2 rfl ⟨⟨tv, ⟨tv, tv⟩⟩, ⟨tv, tv⟩⟩ ?_
            refine TL_end ?_
            refine tsn ?_
            exact TE_nextr [(11700, 11700), (11701, 11701), (11702, 11702), (11703, 11703), (11704, 1042)] n (Nat.lt_succ_self n) (_, _) h1 ⟨rfl, rfl, rfl, rfl, tv⟩ ⟨rfl, rfl, rfl, rfl, rfl, tv⟩ rfl
          · exact (nsome h1).elim
        · replace h1 := bif_f h1 hb
          refine TC_exit ?_
          refine tsx ?_
          refine tsx ?_
          refine tbe ?_
          obtain rfl := sinj h1
          refine tsn ?_
          exact SP_ren [(11500, 11701), (11501, 11702), (11502, 11703), (11503, 11704)] _ rfl ⟨rfl, tv⟩ ⟨rfl, rfl, rfl, rfl, tv⟩ rfl
      · rintro x28 hz
        obtain rfl := hz.symm
        refine TE_go ?_
        refine TC_seq ?_
        refine TC_reg ?_
        refine TL_ev env 1 rfl ⟨⟨tv, tv⟩, tv⟩ ?_
        exact (nsome h0).elim
    · refine nums h0 (fun hx h0 => ?_) (fun h0 => ?_)
      · refine TC_numC 1002 2 2 hx rfl rfl ?_
        refine TC_renw (A' := [(2, .p 1002 0), (6, .nils)]) (L' := [(1002, some (.cells [.int .i64 _, .int .i64 _, .int .i64 2, .int .i64 _, .int .i64 _, .int .i64 _, .int .i64 _, .int .i64 _, .int .i64 _, .int .i64 _]))]) [] ⟨rfl, rfl, tv⟩ ⟨rfl, tv⟩ rfl ?_
        refine TC_drawR ⟨_, fun i => ([[], [0], [], [], [3], [4, 3], [5, 4, 3, 2, 1, 0], [6, 5, 4, 3, 2, 1, 0], [], [8, 7, 6, 5, 4, 3, 2, 1, 0]] : List (List Nat)).getD i [], fun i => ([[], [], [], [], [], [1024], [], [1026], [1008], [1008]] : List (List Nat)).getD i [], fun i => ([[], [], [], [], [], [1024], [], [1026], [1008], []] : List (List Nat)).getD i []⟩ (fun i => ([[1008, 1024], [1008, 1024], [1008, 1024], [1008], [1008], [1008], [1008], [1008], [1024, 1026], []] : List (List Nat)).getD i []) (by kernel_rfl) (by kernel_rfl) ?_
        refine AJR_ev env 1 rfl (Nat.le_of_ble_eq_true rfl) rfl tv ?_
        refine AJR_ev env 2 rfl (Nat.le_of_ble_eq_true rfl) rfl ⟨tv, tv⟩ ?_
        refine AJR_ev env 3 rfl (Nat.le_of_ble_eq_true rfl) rfl tv ?_
        refine AJR_ev env 4 rfl (Nat.le_of_ble_eq_true rfl) rfl tv ?_
        refine AJR_ev env 5 rfl (Nat.le_of_ble_eq_true rfl) rfl ⟨tv, tv⟩ ?_
        refine AJR_ev env 6 rfl (Nat.le_of_ble_eq_true rfl) rfl ⟨tv, tv⟩ ?_
        refine AJR_ev env 7 rfl (Nat.le_of_ble_eq_true rfl) rfl ⟨tv, ⟨tv, ⟨tv, ⟨tv, tv⟩⟩⟩⟩ ?_
        refine AJR_ev env 8 rfl (Nat.le_of_ble_eq_true rfl) rfl tv ?_
        refine AJR_ev env 9 rfl (Nat.le_of_ble_eq_true rfl) rfl tv ?_
        refine AJR_ev env 10 rfl (Nat.le_of_ble_eq_true rfl) rfl ⟨tv, tv⟩ ?_
        refine AJR_end rfl rfl rfl ?_
        refine TE_ownC 1024 0 600240 (.int .i64) rfl rfl (by decide) rfl rfl ?_
        refine TE_ownC 1024 1 600241 (.int .i64) rfl rfl (by decide) rfl rfl ?_
        refine TE_go ?_
        refine TC_seq ?_
        refine TC_seq ?_
        refine TC_reg ?_
        refine TL_ev env 6 rfl ⟨⟨tv, tv⟩, ⟨tv, ⟨tv, ⟨⟨tv, tv⟩, ⟨⟨tv, tv⟩, ⟨tv, tv⟩⟩⟩⟩⟩⟩ ?_
        refine TL_end ?_
        refine TE_go ?_
        obtain ⟨z1, h1, h0⟩ := bnd h0
        refine TC_cut (α := (List (Int)) × (List (Int))) (fun s => z1 = s) (fun s => [(8, .p 12500 0)]) (fun s => [(12500, some (.cells [.p 12501 0])), (12501, some (.cells [.int .i64 p7, .int .i64 (-99), .int .i64 0, .nils, .hd 12502 2])), (12502, some (.cells [.sl 12503, .sl 12504])), (12503, some (.rows (.int .i64) s.1)), (12504, some (.rows (.int .i64) s.2))]) ?_ ?_
        · refine TC_blk ?_
          refine TC_loop (α := Int × (List (Int)) × (List (Int))) (fun n s => alloc_Share_2.l1 K p0 p1 p3 p4 p5 p6 p7 p8 p9 n s.1 s.2.1 s.2.2 = some z1) (fun s => [(2, .p 12900 0), (8, .p 12901 0), (31, .int .i64 2), (32, .int .i64 s.1)]) (fun s => [(12900, some (.cells [.int .i64 p0, .int .i64 p1, .int .i64 2, .int .i64 p3, .int .i64 p4, .int .i64 p5, .int .i64 p6, .int .i64 p7, .int .i64 p8, .int .i64 p9])), (12901, some (.cells [.p 12902 0])), (12902, some (.cells [.int .i64 p7, .int .i64 (-99), .int .i64 0, .nils, .hd 12903 2])), (12903, some (.cells [.sl 12904, .sl 12905])), (12904, some (.rows (.int .i64) s.2.1)), (12905, some (.rows (.int .i64) s.2.2))]) K ?_ ?_
          · exact SP_ren [(12900, 1002), (12901, 1008), (12902, 1026), (12903, 1024), (12904, 600240), (12905, 600241)] (_, _, _) h1 ⟨rfl, rfl, rfl, rfl, tv⟩ ⟨rfl, rfl, rfl, rfl, rfl, rfl, tv⟩ rfl
          rintro n ⟨x56, x57, x58⟩ h1
          rcases n with _ | n
          · exact (nsome h1).elim
          replace h1 : alloc_Share_2.r1 K p0 p1 p3 p4 p5 p6 p7 p8 p9 (alloc_Share_2.l1 K p0 p1 p3 p4 p5 p6 p7 p8 p9 n) x56 x57 x58 = some z1 := h1
          refine TC_seq ?_
          refine TC_reg ?_
          refine TL_ev env 1 rfl ⟨⟨tv, ⟨tv, tv⟩⟩, tv⟩ ?_
          refine TL_end ?_
          refine TE_go ?_
          refine TC_seq ?_
          refine TC_cond rfl (fun hb => ?_) (fun hb => ?_)
          · replace h1 := bif_t h1 hb
            refine TC_skip ?_
            refine TE_go ?_
            refine TC_seq ?_
            obtain ⟨z2, h2, h1⟩ := bnd h1
            refine TC_cut (α := Int × (List (Int)) × (List (Int))) (fun s => z2 = s) (fun s => [(2, .p 13200 0), (8, .p 13201 0), (31, .int .i64 2), (32, .int .i64 s.1)]) (fun s => [(13200, some (.cells [.int .i64 p0, .int .i64 p1, .int .i64 2, .int .i64 p3, .int .i64 p4, .int .i64 p5, .int .i64 p6, .int .i64 p7, .int .i64 p8, .int .i64 p9])), (13201, some (.cells [.p 13202 0])), (13202, some (.cells [.int .i64 p7, .int .i64 (-99), .int .i64 0, .nils, .hd 13203 2])), (13203, some (.cells [.sl 13204, .sl 13205])), (13204, some (.rows (.int .i64) s.2.1)), (13205, some (.rows (.int .i64) s.2.2))]) ?_ ?_
            · refine TC_blk ?_
              refine TC_seq ?_
              refine TC_reg ?_
              refine TL_ev env 2 rfl ⟨tv, ⟨tv, tv⟩⟩ ?_
              refine TL_end ?_
              refine TE_go ?_
              refine nums h2 (fun hx h2 => ?_) (fun h2 => ?_)
              · refine TC_num 32 0 hx rfl ?_
                refine TC_num 34 0 hx rfl ?_
                refine TC_num 9 0 hx rfl ?_
                refine TC_renw (A' := [(2, .p 12900 0), (8, .p 12901 0), (9, .int .i64 0), (31, .int .i64 2), (32, .int .i64 0)]) (L' := [(12900, some (.cells [.int .i64 _, .int .i64 _, .int .i64 2, .int .i64 _, .int .i64 _, .int .i64 _, .int .i64 _, .int .i64 _, .int .i64 _, .int .i64 _])), (12901, some (.cells [.p 12902 0])), (12902, some (.cells [.int .i64 _, .int .i64 (-99), .int .i64 0, .nils, .hd 12903 2])), (12903, some (.cells [.sl 12904, .sl 12905])), (12904, some (.rows (.int .i64) _)), (12905, some (.rows (.int .i64) _))]) [] ⟨rfl, rfl, rfl, rfl, rfl, tv⟩ ⟨rfl, rfl, rfl, rfl, rfl, rfl, tv⟩ rfl ?_
                refine TC_drawR ⟨_, fun i => ([[], [0], [1, 0], [2, 1, 0], [], [], [5], [6, 5], [7, 6, 5, 4, 3, 2, 1, 0], [8, 7, 6, 5, 4, 3, 2, 1, 0]] : List (List Nat)).getD i [], fun i => ([[], [], [], [], [], [], [], [1042], [], [12903]] : List (List Nat)).getD i [], fun i => ([[], [], [], [], [], [], [], [1042], [], []] : List (List Nat)).getD i []⟩ (fun i => ([[1042], [1042], [1042], [1042], [1042], [], [], [], [], []] : List (List Nat)).getD i []) (by kernel_rfl) (by kernel_rfl) ?_
                refine AJR_ev env 1 rfl (Nat.le_of_ble_eq_true rfl) rfl ⟨tv, tv⟩ ?_
                refine AJR_ev env 2 rfl (Nat.le_of_ble_eq_true rfl) rfl tv ?_
                refine AJR_ev env 3 rfl (Nat.le_of_ble_eq_true rfl) rfl tv ?_
                refine AJR_ev env 4 rfl (Nat.le_of_ble_eq_true rfl) rfl ⟨tv, tv⟩ ?_
                refine AJR_ev env 5 rfl (Nat.le_of_ble_eq_true rfl) rfl tv ?_
                refine AJR_ev env 6 rfl (Nat.le_of_ble_eq_true rfl) rfl tv ?_
                refine AJR_ev env 7 rfl (Nat.le_of_ble_eq_true rfl) rfl ⟨tv, tv⟩ ?_
                obtain ⟨g, h2⟩ := gd_t h2
                refine AJR_ev env 8 rfl (Nat.le_of_ble_eq_true rfl) rfl ⟨tv, ⟨tv, ⟨g.1, ⟨g.2.1, g.2.2⟩⟩⟩⟩ ?_
                refine AJR_ev env 9 rfl (Nat.le_of_ble_eq_true rfl) rfl ⟨tv, ⟨tv, ⟨(by decide), (by decide)⟩⟩⟩ ?_
                refine AJR_ev env 10 rfl (Nat.le_of_ble_eq_true rfl) rfl ⟨tv, tv⟩ ?_
                refine AJR_end rfl rfl rfl ?_
                refine tbn ?_
                obtain rfl := sinj h2
                refine tsn ?_
                exact SP_ren [(13200, 12900), (13201, 12901), (13202, 12902), (13203, 12903), (13204, 1042), (13205, 12905)] (_, _, _) rfl ⟨rfl, rfl, rfl, rfl, tv⟩ ⟨rfl, rfl, rfl, rfl, rfl, rfl, tv⟩ rfl
              · refine nums h2 (fun hx h2 => ?_) (fun h2 => ?_)
                · refine TC_num 32 1 hx rfl ?_
                  refine TC_num 34 1 hx rfl ?_
                  refine TC_num 9 1 hx rfl ?_
                  refine TC_renw (A' := [(2, .p 12900 0), (8, .p 12901 0), (9, .int .i64 1), (31, .int .i64 2), (32, .int .i64 1)]) (L' := [(12900, some (.cells [.int .i64 _, .int .i64 _, .int .i64 2, .int .i64 _, .int .i64 _, .int .i64 _, .int .i64 _, .int .i64 _, .int .i64 _, .int .i64 _])), (12901, some (.cells [.p 12902 0])), (12902, some (.cells [.int .i64 _, .int .i64 (-99), .int .i64 0, .nils, .hd 12903 2])), (12903, some (.cells [.sl 12904, .sl 12905])), (12904, some (.rows (.int .i64) _)), (12905, some (.rows (.int .i64) _))]) [] ⟨rfl, rfl, rfl, rfl, rfl, tv⟩ ⟨rfl, rfl, rfl, rfl, rfl, rfl, tv⟩ rfl ?_
                  refine TC_drawR ⟨_, fun i => ([[], [0], [1, 0], [2, 1, 0], [], [], [5], [6, 5], [7, 6, 5, 4, 3, 2, 1, 0], [8, 7, 6, 5, 4, 3, 2, 1, 0]] : List (List Nat)).getD i [], fun i => ([[], [], [], [], [], [], [], [1042], [], [12903]] : List (List Nat)).getD i [], fun i => ([[], [], [], [], [], [], [], [1042], [], []] : List (List Nat)).getD i []⟩ (fun i => ([[1042], [1042], [1042], [1042], [1042], [], [], [], [], []] : List (List Nat)).getD i []) (by kernel_rfl) (by kernel_rfl) ?_
                  refine AJR_ev env 1 rfl (Nat.le_of_ble_eq_true rfl) rfl ⟨tv, tv⟩ ?_
                  refine AJR_ev env 2 rfl (Nat.le_of_ble_eq_true rfl) rfl tv ?_
                  refine AJR_ev env 3 rfl (Nat.le_of_ble_eq_true rfl) rfl tv ?_
                  refine AJR_ev env 4 rfl (Nat.le_of_ble_eq_true rfl) rfl ⟨tv, tv⟩ ?_
                  refine AJR_ev env 5 rfl (Nat.le_of_ble_eq_true rfl) rfl tv ?_
                  refine AJR_ev env 6 rfl (Nat.le_of_ble_eq_true rfl) rfl tv ?_
                  refine AJR_ev env 7 rfl (Nat.le_of_ble_eq_true rfl) rfl ⟨tv, tv⟩ ?_
                  obtain ⟨g, h2⟩ := gd_t h2
                  refine AJR_ev env 8 rfl (Nat.le_of_ble_eq_true rfl) rfl ⟨tv, ⟨tv, ⟨g.1, ⟨g.2.1, g.2.2⟩⟩⟩⟩ ?_
                  refine AJR_ev env 9 rfl (Nat.le_of_ble_eq_true rfl) rfl ⟨tv, ⟨tv, ⟨(by decide), (by decide)⟩⟩⟩ ?_
                  refine AJR_ev env 10 rfl (Nat.le_of_ble_eq_true rfl) rfl ⟨tv, tv⟩ ?_
                  refine AJR_end rfl rfl rfl ?_
                  refine tbn ?_
                  obtain rfl := sinj h2
                  refine tsn ?_
                  exact SP_ren [(13200, 12900), (13201, 12901), (13202, 12902), (13203, 12903), (13204, 12904), (13205, 1042)] (_, _, _) rfl ⟨rfl, rfl, rfl, rfl, tv⟩ ⟨rfl, rfl, rfl, rfl, rfl, rfl, tv⟩ rfl
                · exact (nsome h2).elim
            · rintro ⟨x66, x67, x68⟩ rfl
              refine TE_go ?_
              refine TC_reg ?_
              refine TL_ev env 2 rfl ⟨⟨tv, ⟨tv, tv⟩⟩, ⟨tv, tv⟩⟩ ?_
              refine TL_end ?_
              refine tsn ?_
              exact TE_nextr [(12900, 13200), (12901, 13201), (12902, 13202), (12903, 13203), (12904, 13204), (12905, 13205)] n (Nat.lt_succ_self n) (_, _, _) h1 ⟨rfl, rfl, rfl, rfl, tv⟩ ⟨rfl, rfl, rfl, rfl, rfl, rfl, tv⟩ rfl
          · replace h1 := bif_f h1 hb
            refine TC_exit ?_
            refine tsx ?_
            refine tsx ?_
            refine tbe ?_
            obtain rfl := sinj h1
            refine tsn ?_
            exact SP_ren [(12500, 12901), (12501, 12902), (12502, 12903), (12503, 12904), (12504, 12905)] (_, _) rfl ⟨rfl, tv⟩ ⟨rfl, rfl, rfl, rfl, rfl, tv⟩ rfl
        · rintro ⟨x49, x50⟩ rfl
          refine TE_go ?_
          refine TC_seq ?_
          refine TC_reg ?_
          refine TL_ev env 1 rfl ⟨⟨tv, tv⟩, tv⟩ ?_
          exact (nsome h0).elim
      · exact (nsome h0).elim
theorem alloc_Share_2.ok0 {K : Nat} {p0 : Int} {p1 : Int} {p2 : Int} {p3 : Int} {p4 : Int} {p5 : Int} {p6 : Int} {p7 : Int} {p8 : Int} {p9 : Int} {q0 : Int} (h0 : alloc_Share_2 K p0 p1 p2 p3 p4 p5 p6 p7 p8 p9 = some q0) : Fn Try.prog 53 [.agg [.int .i64 p0, .int .i64 p1, .int .i64 p2, .int .i64 p3, .int .i64 p4, .int .i64 p5, .int .i64 p6, .int .i64 p7, .int .i64 p8, .int .i64 p9], .nils] [] (.tup [.nils, .int .i64 q0]) [] := alloc_Share_2.ok h0
theorem alloc_Share_2.fnb : fnb Try.prog 53 = true := fnb_of Try.func53 rfl
def psalterylaw12_alive.res  : Bool → MV
  | q0 => .bool q0
def psalterylaw12_alive.out  : Bool → List (Nat × Option MObj)
  | _ => []
theorem psalterylaw12_alive.ok {K : Nat}  {r : Bool} (h0 : psalterylaw12_alive K  = some r) : Fn Try.prog 50 [] [] (psalterylaw12_alive.res  r) (psalterylaw12_alive.out  r) := by
  refine Fn_of Try.func50 rfl (Nat.le_of_ble_eq_true rfl) fun Γ => ?_
  refine TC_seq ?_
  refine TC_reg ?_
  refine TL_ev env 1 rfl ⟨tv, tv⟩ ?_
  refine TL_end ?_
  refine TE_go ?_
  refine TC_seq ?_
  refine TC_reg ?_
  refine TL_ev env 3 rfl ⟨⟨tv, ⟨tv, ⟨tv, ⟨tv, ⟨tv, ⟨tv, tv⟩⟩⟩⟩⟩⟩, ⟨tv, ⟨⟨tv, tv⟩, tv⟩⟩⟩ ?_
  refine TL_end ?_
  refine TE_go ?_
  refine TC_seq ?_
  refine TC_reg ?_
  refine TL_ev env 3 rfl ⟨⟨tv, tv⟩, ⟨⟨tv, ⟨tv, ⟨tv, ⟨tv, tv⟩⟩⟩⟩, ⟨⟨tv, tv⟩, tv⟩⟩⟩ ?_
  refine TL_frz 1009 rfl ?_
  refine TL_frh 1010 (.slice (.int .i64)) rfl rfl rfl ?_
  obtain ⟨z, hr, h0⟩ := bnd h0
  rcases z with r6 | r7
  · refine TL_callB [] (alloc_Share.ok0 hr) alloc_Share.fnb rfl ⟨tv, ⟨tv, ⟨tv, tv⟩⟩⟩ rfl tv rfl ?_
    refine TL_ev env 5 rfl ⟨tv, ⟨tv, ⟨tv, ⟨tv, ⟨tv, tv⟩⟩⟩⟩⟩ ?_
    refine TL_end ?_
    refine TE_go ?_
    refine TC_seq ?_
    refine TC_reg ?_
    refine TL_ev env 1 rfl ⟨⟨tv, tv⟩, tv⟩ ?_
    obtain ⟨r8, hr, h0⟩ := bnd h0
    refine TL_callB [] (alloc_Share_2.ok0 hr) alloc_Share_2.fnb rfl ⟨tv, ⟨tv, ⟨tv, tv⟩⟩⟩ rfl tv rfl ?_
    refine TL_ev env 5 rfl ⟨tv, ⟨tv, ⟨tv, ⟨tv, ⟨tv, tv⟩⟩⟩⟩⟩ ?_
    refine TL_end ?_
    refine TE_go ?_
    refine TC_seq ?_
    refine TC_reg ?_
    refine TL_ev env 8 rfl ⟨tv, ⟨⟨tv, ⟨tv, tv⟩⟩, ⟨tv, ⟨fun eg => tv, ⟨fun eg => ⟨fun e => e, tv⟩, ⟨fun eg => ⟨fun e => e, ⟨tv, tv⟩⟩, ⟨⟨tv, ⟨fun e => e, tv⟩⟩, ⟨tv, tv⟩⟩⟩⟩⟩⟩⟩⟩ ?_
    refine TL_split 26 rfl (fun hb => ?_) (fun hb => ?_)
    · replace h0 := bif_t h0 hb
      refine TL_gt rfl rfl rfl rfl ?_
      refine TL_ev env 1 rfl ⟨tv, tv⟩ ?_
      exact (nsome h0).elim
    · replace h0 := bif_f h0 hb
      refine TL_gf (.bool false) rfl rfl rfl rfl rfl (by decide) ?_
      refine TL_gf (.bool false) rfl rfl rfl rfl rfl (by decide) ?_
      refine TL_gf (.bool false) rfl rfl rfl rfl rfl (by decide) ?_
      refine TL_gf (.bool false) rfl rfl rfl rfl rfl (by decide) ?_
      refine TL_gf (.bool false) rfl rfl rfl rfl rfl (by decide) ?_
      refine TL_ev env 2 rfl ⟨⟨tv, ⟨fun e => e, tv⟩⟩, ⟨tv, tv⟩⟩ ?_
      refine TL_gf (.bool false) rfl rfl rfl rfl rfl (by decide) ?_
      refine TL_gf (.bool false) rfl rfl rfl rfl rfl (by decide) ?_
      refine TL_gf (.bool false) rfl rfl rfl rfl rfl (by decide) ?_
      refine TL_gf (.bool false) rfl rfl rfl rfl rfl (by decide) ?_
      refine TL_gf (.bool false) rfl rfl rfl rfl rfl (by decide) ?_
      refine TL_gf (.bool false) rfl rfl rfl rfl rfl (by decide) ?_
      refine TL_ev env 2 rfl ⟨⟨tv, ⟨fun e => e, tv⟩⟩, ⟨tv, tv⟩⟩ ?_
      refine TL_gf (.bool false) rfl rfl rfl rfl rfl (by decide) ?_
      refine TL_gf (.bool false) rfl rfl rfl rfl rfl (by decide) ?_
      refine TL_gf (.bool false) rfl rfl rfl rfl rfl (by decide) ?_
      refine TL_gf (.bool false) rfl rfl rfl rfl rfl (by decide) ?_
      refine TL_gf (.bool false) rfl rfl rfl rfl rfl (by decide) ?_
      refine TL_gf (.bool false) rfl rfl rfl rfl rfl (by decide) ?_
      refine TL_ev env 2 rfl ⟨⟨tv, ⟨fun e => e, tv⟩⟩, ⟨tv, tv⟩⟩ ?_
      refine TL_gf (.bool false) rfl rfl rfl rfl rfl (by decide) ?_
      refine TL_gf (.bool false) rfl rfl rfl rfl rfl (by decide) ?_
      refine TL_gf (.bool false) rfl rfl rfl rfl rfl (by decide) ?_
      refine TL_gf (.bool false) rfl rfl rfl rfl rfl (by decide) ?_
      refine TL_gf (.bool false) rfl rfl rfl rfl rfl (by decide) ?_
      refine TL_gf (.bool false) rfl rfl rfl rfl rfl (by decide) ?_
      refine TL_ev env 2 rfl ⟨⟨tv, ⟨fun e => e, tv⟩⟩, ⟨tv, tv⟩⟩ ?_
      refine TL_gf (.bool false) rfl rfl rfl rfl rfl (by decide) ?_
      refine TL_gf (.bool false) rfl rfl rfl rfl rfl (by decide) ?_
      refine TL_ev env 2 rfl ⟨⟨tv, ⟨fun e => e, tv⟩⟩, ⟨tv, tv⟩⟩ ?_
      refine TL_end ?_
      refine TE_go ?_
      refine TC_ret ?_
      obtain rfl := sinj h0
      exact TE_ret env rfl tv tv
  · refine TL_callB [] (alloc_Share.ok1 hr) alloc_Share.fnb rfl ⟨tv, ⟨tv, ⟨tv, tv⟩⟩⟩ rfl tv rfl ?_
    refine TL_ev env 5 rfl ⟨tv, ⟨tv, ⟨tv, ⟨tv, ⟨tv, tv⟩⟩⟩⟩⟩ ?_
    refine TL_end ?_
    refine TE_go ?_
    refine TC_seq ?_
    refine TC_reg ?_
    refine TL_ev env 1 rfl ⟨⟨tv, tv⟩, tv⟩ ?_
    obtain ⟨r10, hr, h0⟩ := bnd h0
    refine TL_callB [] (alloc_Share_2.ok0 hr) alloc_Share_2.fnb rfl ⟨tv, ⟨tv, ⟨tv, tv⟩⟩⟩ rfl tv rfl ?_
    refine TL_ev env 5 rfl ⟨tv, ⟨tv, ⟨tv, ⟨tv, ⟨tv, tv⟩⟩⟩⟩⟩ ?_
    refine TL_end ?_
    refine TE_go ?_
    refine TC_seq ?_
    obtain ⟨z1, h1, h0⟩ := bnd h0
    refine TC_cut (α := Bool) (fun s => z1 = s) (fun s => [(0, .bool s)]) (fun s => []) ?_ ?_
    · refine TC_reg ?_
      refine TL_ev env 3 rfl ⟨tv, ⟨⟨tv, ⟨tv, tv⟩⟩, ⟨tv, tv⟩⟩⟩ ?_
      refine TL_gt rfl rfl rfl rfl ?_
      refine TL_ev env 1 rfl ⟨tv, tv⟩ ?_
      refine TL_gt rfl rfl rfl rfl ?_
      refine TL_ev env 1 rfl ⟨⟨tv, tv⟩, tv⟩ ?_
      refine TL_gt rfl rfl rfl rfl ?_
      refine TL_ev env 3 rfl ⟨⟨tv, ⟨tv, tv⟩⟩, ⟨⟨tv, ⟨tv, tv⟩⟩, ⟨tv, tv⟩⟩⟩ ?_
      refine TL_split 26 rfl (fun hb => ?_) (fun hb => ?_)
      · replace h1 := bif_t h1 hb
        refine TL_gt rfl rfl rfl rfl ?_
        refine TL_ev env 1 rfl ⟨tv, tv⟩ ?_
        refine TL_gt rfl rfl rfl rfl ?_
        obtain ⟨g, h1⟩ := gd_t h1
        refine TL_ev env 1 rfl ⟨⟨tv, ⟨tv, ⟨(by decide), g⟩⟩⟩, tv⟩ ?_
        refine TL_gt rfl rfl rfl rfl ?_
        refine TL_ev env 1 rfl ⟨⟨tv, tv⟩, tv⟩ ?_
        refine TL_gt rfl rfl rfl rfl ?_
        refine TL_ev env 1 rfl ⟨⟨tv, tv⟩, tv⟩ ?_
        refine TL_gt rfl rfl rfl rfl ?_
        obtain ⟨g, h1⟩ := gd_t h1
        refine TL_ev env 31 rfl ⟨⟨tv, ⟨tv, tv⟩⟩, ⟨⟨tv, ⟨tv, tv⟩⟩, ⟨tv, ⟨fun eg => tv, ⟨fun eg => ⟨fun e => e, ⟨tv, ⟨(by decide), (g.1 eg)⟩⟩⟩, ⟨fun eg => ⟨fun e => e, tv⟩, ⟨fun eg => ⟨fun e => e, ⟨tv, ⟨(by decide), (g.2.1 eg)⟩⟩⟩, ⟨fun eg => ⟨fun e => e, tv⟩, ⟨fun eg => ⟨fun e => e, ⟨tv, tv⟩⟩, ⟨⟨tv, ⟨fun e => e, tv⟩⟩, ⟨tv, ⟨fun eg => tv, ⟨fun eg => ⟨fun e => e, ⟨tv, ⟨(by decide), (g.2.2.1 eg)⟩⟩⟩, ⟨fun eg => ⟨fun e => e, tv⟩, ⟨fun eg => ⟨fun e => e, ⟨tv, ⟨(by decide), (g.2.2.2.1 eg)⟩⟩⟩, ⟨fun eg => ⟨fun e => e, tv⟩, ⟨fun eg => ⟨fun e => e, ⟨tv, tv⟩⟩, ⟨⟨tv, ⟨fun e => e, tv⟩⟩, ⟨tv, ⟨fun eg => tv, ⟨fun eg => ⟨fun e => e, ⟨tv, ⟨(by decide), (g.2.2.2.2.1 eg)⟩⟩⟩, ⟨fun eg => ⟨fun e => e, tv⟩, ⟨fun eg => ⟨fun e => e, ⟨tv, ⟨(by decide), (g.2.2.2.2.2 eg)⟩⟩⟩, ⟨fun eg => ⟨fun e => e, tv⟩, ⟨fun eg => ⟨fun e => e, ⟨tv, tv⟩⟩, ⟨⟨tv, ⟨fun e => e, tv⟩⟩, ⟨tv, ⟨fun eg => tv, ⟨fun eg => ⟨fun e => e, ⟨tv, tv⟩⟩, ⟨⟨tv, ⟨fun e => e, tv⟩⟩, ⟨tv, tv⟩⟩⟩⟩⟩⟩⟩⟩⟩⟩⟩⟩⟩⟩⟩⟩⟩⟩⟩⟩⟩⟩⟩⟩⟩⟩⟩⟩⟩⟩⟩ ?_
        refine TL_end ?_
        obtain rfl := sinj h1
        refine tsn ?_
        exact SP_ren [] _ rfl ⟨rfl, tv⟩ tv rfl
      · replace h1 := bif_f h1 hb
        refine TL_gf (.bool false) rfl rfl rfl rfl rfl (by decide) ?_
        refine TL_gf (.bool false) rfl rfl rfl rfl rfl (by decide) ?_
        refine TL_gf (.bool false) rfl rfl rfl rfl rfl (by decide) ?_
        refine TL_gf (.bool false) rfl rfl rfl rfl rfl (by decide) ?_
        refine TL_gf (.bool false) rfl rfl rfl rfl rfl (by decide) ?_
        refine TL_ev env 2 rfl ⟨⟨tv, ⟨fun e => e, tv⟩⟩, ⟨tv, tv⟩⟩ ?_
        refine TL_gf (.bool false) rfl rfl rfl rfl rfl (by decide) ?_
        refine TL_gf (.bool false) rfl rfl rfl rfl rfl (by decide) ?_
        refine TL_gf (.bool false) rfl rfl rfl rfl rfl (by decide) ?_
        refine TL_gf (.bool false) rfl rfl rfl rfl rfl (by decide) ?_
        refine TL_gf (.bool false) rfl rfl rfl rfl rfl (by decide) ?_
        refine TL_gf (.bool false) rfl rfl rfl rfl rfl (by decide) ?_
        refine TL_ev env 2 rfl ⟨⟨tv, ⟨fun e => e, tv⟩⟩, ⟨tv, tv⟩⟩ ?_
        refine TL_gf (.bool false) rfl rfl rfl rfl rfl (by decide) ?_
        refine TL_gf (.bool false) rfl rfl rfl rfl rfl (by decide) ?_
        refine TL_gf (.bool false) rfl rfl rfl rfl rfl (by decide) ?_
        refine TL_gf (.bool false) rfl rfl rfl rfl rfl (by decide) ?_
        refine TL_gf (.bool false) rfl rfl rfl rfl rfl (by decide) ?_
        refine TL_gf (.bool false) rfl rfl rfl rfl rfl (by decide) ?_
        refine TL_ev env 2 rfl ⟨⟨tv, ⟨fun e => e, tv⟩⟩, ⟨tv, tv⟩⟩ ?_
        refine TL_gf (.bool false) rfl rfl rfl rfl rfl (by decide) ?_
        refine TL_gf (.bool false) rfl rfl rfl rfl rfl (by decide) ?_
        refine TL_gf (.bool false) rfl rfl rfl rfl rfl (by decide) ?_
        refine TL_gf (.bool false) rfl rfl rfl rfl rfl (by decide) ?_
        refine TL_gf (.bool false) rfl rfl rfl rfl rfl (by decide) ?_
        refine TL_gf (.bool false) rfl rfl rfl rfl rfl (by decide) ?_
        refine TL_ev env 2 rfl ⟨⟨tv, ⟨fun e => e, tv⟩⟩, ⟨tv, tv⟩⟩ ?_
        refine TL_gf (.bool false) rfl rfl rfl rfl rfl (by decide) ?_
        refine TL_gf (.bool false) rfl rfl rfl rfl rfl (by decide) ?_
        refine TL_ev env 2 rfl ⟨⟨tv, ⟨fun e => e, tv⟩⟩, ⟨tv, tv⟩⟩ ?_
        refine TL_end ?_
        obtain rfl := sinj h1
        refine tsn ?_
        exact SP_ren [] _ rfl ⟨rfl, tv⟩ tv rfl
    · rintro x11 hz
      obtain rfl := hz.symm
      refine TE_go ?_
      refine TC_ret ?_
      obtain rfl := sinj h0
      exact TE_ret env rfl tv tv
theorem psalterylaw12_alive.ok0 {K : Nat}  {q0 : Bool} (h0 : psalterylaw12_alive K  = some q0) : Fn Try.prog 50 [] [] (.bool q0) [] := psalterylaw12_alive.ok h0
theorem psalterylaw12_alive.fnb : fnb Try.prog 50 = true := fnb_of Try.func50 rfl
def psalterylaw12_Far.res (_p0 : List (List (Int))) : Bool → MV
  | q0 => .bool q0
def psalterylaw12_Far.out (_p0 : List (List (Int))) : Bool → List (Nat × Option MObj)
  | _ => []
theorem psalterylaw12_Far.ok {K : Nat} {p0 : List (List (Int))} {r : Bool} (h0 : psalterylaw12_Far K p0 = some r) : Fn Try.prog 51 [.im (.slice (.slice (.int .i64))) p0] [] (psalterylaw12_Far.res p0 r) (psalterylaw12_Far.out p0 r) := by
  refine Fn_of Try.func51 rfl (Nat.le_of_ble_eq_true rfl) fun Γ => ?_
  refine TC_seq ?_
  refine TC_reg ?_
  refine TL_ev env 1 rfl ⟨tv, tv⟩ ?_
  refine TL_end ?_
  refine TE_go ?_
  refine TC_seq ?_
  refine TC_seq ?_
  refine TC_reg ?_
  refine TL_ev env 3 rfl ⟨tv, ⟨⟨tv, tv⟩, ⟨⟨tv, ⟨tv, tv⟩⟩, tv⟩⟩⟩ ?_
  refine TL_end ?_
  refine TE_go ?_
  refine TC_cond rfl (fun hb => ?_) (fun hb => ?_)
  · replace h0 := bif_t h0 hb
    refine TC_seq ?_
    refine TC_reg ?_
    refine TL_ev env 1 rfl ⟨tv, tv⟩ ?_
    refine TL_end ?_
    refine TE_go ?_
    refine TC_ret ?_
    refine tsr ?_
    obtain rfl := sinj h0
    exact TE_ret env rfl tv tv
  · replace h0 := bif_f h0 hb
    refine TC_skip ?_
    refine TE_go ?_
    refine TC_seq ?_
    refine TC_seq ?_
    refine TC_reg ?_
    refine TL_ev env 1 rfl ⟨tv, tv⟩ ?_
    refine TL_end ?_
    refine TE_go ?_
    obtain ⟨z1, h1, h0⟩ := bnd h0
    refine TC_cut (α := Unit) (fun _ => z1 = .inl ()) (fun _ => []) (fun _ => []) ?_ ?_
    · refine TC_blk ?_
      refine TC_loop (α := Int) (fun n s => psalterylaw12_Far.l0 K p0 n s = some z1) (fun s => [(0, .im (.slice (.slice (.int .i64))) p0), (3, .int .i64 s)]) (fun s => []) K ?_ ?_
      · exact SP_ren [] _ h1 ⟨rfl, rfl, tv⟩ tv rfl
      rintro n x6 h1
      rcases n with _ | n
      · exact (nsome h1).elim
      replace h1 : psalterylaw12_Far.r0 K p0 (psalterylaw12_Far.l0 K p0 n) x6 = some z1 := h1
      refine TC_seq ?_
      refine TC_seq ?_
      refine TC_reg ?_
      refine TL_ev env 4 rfl ⟨tv, ⟨tv, ⟨⟨tv, tv⟩, ⟨⟨tv, ⟨tv, tv⟩⟩, tv⟩⟩⟩⟩ ?_
      refine TL_end ?_
      refine TE_go ?_
      refine TC_cond rfl (fun hb => ?_) (fun hb => ?_)
      · replace h1 := bif_t h1 hb
        refine TC_skip ?_
        refine TE_go ?_
        refine TC_seq ?_
        refine TC_blk ?_
        refine TC_seq ?_
        refine TC_reg ?_
        obtain ⟨g, h1⟩ := gd_t h1
        refine TL_ev env 6 rfl ⟨tv, ⟨tv, ⟨⟨tv, ⟨tv, ⟨g.1, g.2⟩⟩⟩, ⟨⟨tv, tv⟩, ⟨⟨tv, tv⟩, ⟨⟨tv, ⟨tv, tv⟩⟩, tv⟩⟩⟩⟩⟩⟩ ?_
        refine TL_end ?_
        refine TE_go ?_
        refine TC_cond rfl (fun hb => ?_) (fun hb => ?_)
        · replace h1 := bif_t h1 hb
          refine TC_seq ?_
          refine TC_reg ?_
          refine TL_ev env 1 rfl ⟨tv, tv⟩ ?_
          refine TL_end ?_
          refine TE_go ?_
          refine TC_ret ?_
          refine tbr ?_
          refine tsr ?_
          refine tsr ?_
          refine tbr ?_
          refine tsr ?_
          refine tsr ?_
          obtain rfl := sinj h1
          obtain rfl := sinj h0
          exact TE_ret env rfl tv tv
        · replace h1 := bif_f h1 hb
          refine TC_skip ?_
          refine tbn ?_
          refine TE_go ?_
          refine TC_reg ?_
          refine TL_ev env 3 rfl ⟨tv, ⟨⟨tv, ⟨tv, tv⟩⟩, ⟨tv, tv⟩⟩⟩ ?_
          refine TL_end ?_
          refine tsn ?_
          exact TE_nextr [] n (Nat.lt_succ_self n) _ h1 ⟨rfl, rfl, tv⟩ tv rfl
      · replace h1 := bif_f h1 hb
        refine TC_exit ?_
        refine tsx ?_
        refine tsx ?_
        refine tbe ?_
        obtain rfl := sinj h1
        refine tsn ?_
        exact SP_ren [] () rfl tv tv rfl
    · rintro ⟨⟩ rfl
      refine TE_go ?_
      refine TC_seq ?_
      refine TC_reg ?_
      refine TL_ev env 1 rfl ⟨tv, tv⟩ ?_
      refine TL_end ?_
      refine TE_go ?_
      refine TC_ret ?_
      obtain rfl := sinj h0
      exact TE_ret env rfl tv tv
theorem psalterylaw12_Far.ok0 {K : Nat} {p0 : List (List (Int))} {q0 : Bool} (h0 : psalterylaw12_Far K p0 = some q0) : Fn Try.prog 51 [.im (.slice (.slice (.int .i64))) p0] [] (.bool q0) [] := psalterylaw12_Far.ok h0
theorem psalterylaw12_Far.fnb : fnb Try.prog 51 = true := fnb_of Try.func51 rfl
def psalteryref11_Bits.res (_p0 : Int) (_p1 : Int) (_p2 : Int) (_p3 : Int) (_p4 : Int) (_p5 : Int) (_p6 : Int) (_p7 : Int) (_p8 : Int) (_p9 : Int) : Int → MV
  | q0 => .int .i64 q0
def psalteryref11_Bits.out (_p0 : Int) (_p1 : Int) (_p2 : Int) (_p3 : Int) (_p4 : Int) (_p5 : Int) (_p6 : Int) (_p7 : Int) (_p8 : Int) (_p9 : Int) : Int → List (Nat × Option MObj)
  | _ => []
theorem psalteryref11_Bits.ok {K : Nat} {p0 : Int} {p1 : Int} {p2 : Int} {p3 : Int} {p4 : Int} {p5 : Int} {p6 : Int} {p7 : Int} {p8 : Int} {p9 : Int} {r : Int} (h0 : psalteryref11_Bits K p0 p1 p2 p3 p4 p5 p6 p7 p8 p9 = some r) : Fn Try.prog 38 [.agg [.int .i64 p0, .int .i64 p1, .int .i64 p2, .int .i64 p3, .int .i64 p4, .int .i64 p5, .int .i64 p6, .int .i64 p7, .int .i64 p8, .int .i64 p9]] [] (psalteryref11_Bits.res p0 p1 p2 p3 p4 p5 p6 p7 p8 p9 r) (psalteryref11_Bits.out p0 p1 p2 p3 p4 p5 p6 p7 p8 p9 r) := by
  refine Fn_of Try.func38 rfl (Nat.le_of_ble_eq_true rfl) fun Γ => ?_
  refine TC_seq ?_
  refine TC_reg ?_
  refine TL_ev env 2 rfl ⟨tv, ⟨tv, tv⟩⟩ ?_
  refine TL_end ?_
  refine TE_go ?_
  refine TC_seq ?_
  refine TC_seq ?_
  refine TC_reg ?_
  refine TL_ev env 3 rfl ⟨tv, ⟨⟨tv, tv⟩, ⟨⟨tv, ⟨tv, tv⟩⟩, tv⟩⟩⟩ ?_
  refine TL_end ?_
  refine TE_go ?_
  refine TC_cond rfl (fun hb => ?_) (fun hb => ?_)
  · replace h0 := bif_t h0 hb
    refine TC_seq ?_
    refine TC_reg ?_
    refine TL_ev env 4 rfl ⟨tv, ⟨⟨tv, tv⟩, ⟨⟨tv, ⟨tv, tv⟩⟩, ⟨tv, tv⟩⟩⟩⟩ ?_
    refine TL_end ?_
    refine TE_go ?_
    refine TC_ret ?_
    refine tsr ?_
    obtain rfl := sinj h0
    exact TE_ret env rfl tv tv
  · replace h0 := bif_f h0 hb
    refine TC_skip ?_
    refine TE_go ?_
    refine TC_seq ?_
    refine TC_reg ?_
    refine TL_ev env 7 rfl ⟨tv, ⟨⟨tv, tv⟩, ⟨tv, ⟨⟨tv, tv⟩, ⟨⟨tv, ⟨tv, tv⟩⟩, ⟨⟨tv, ⟨tv, tv⟩⟩, ⟨tv, tv⟩⟩⟩⟩⟩⟩⟩ ?_
    refine TL_end ?_
    refine TE_go ?_
    refine TC_seq ?_
    refine TC_seq ?_
    refine TC_reg ?_
    refine TL_ev env 1 rfl ⟨tv, tv⟩ ?_
    refine TL_end ?_
    refine TE_go ?_
    obtain ⟨z1, h1, h0⟩ := bnd h0
    refine TC_cut (α := Int) (fun s => z1 = s) (fun s => [(1, .p 10900 0), (3, .int .i64 s)]) (fun s => [(10900, some (.cells [.int .i64 p0, .int .i64 p1, .int .i64 p2, .int .i64 p3, .int .i64 p4, .int .i64 p5, .int .i64 p6, .int .i64 p7, .int .i64 p8, .int .i64 p9]))]) ?_ ?_
    · refine TC_blk ?_
      refine TC_loop (α := Int × Int) (fun n s => psalteryref11_Bits.l0 K p0 p1 p2 p3 p4 p5 p6 p7 p8 p9 n s.1 s.2 = some z1) (fun s => [(1, .p 11200 0), (3, .int .i64 s.1), (4, .int .i64 s.2)]) (fun s => [(11200, some (.cells [.int .i64 p0, .int .i64 p1, .int .i64 p2, .int .i64 p3, .int .i64 p4, .int .i64 p5, .int .i64 p6, .int .i64 p7, .int .i64 p8, .int .i64 p9]))]) K ?_ ?_
      · exact SP_ren [(11200, 1001)] (_, _) h1 ⟨rfl, rfl, rfl, tv⟩ ⟨rfl, tv⟩ rfl
      rintro n ⟨x17, x18⟩ h1
      rcases n with _ | n
      · exact (nsome h1).elim
      replace h1 : psalteryref11_Bits.r0 K p0 p1 p2 p3 p4 p5 p6 p7 p8 p9 (psalteryref11_Bits.l0 K p0 p1 p2 p3 p4 p5 p6 p7 p8 p9 n) x17 x18 = some z1 := h1
      refine TC_seq ?_
      refine TC_seq ?_
      refine TC_reg ?_
      refine TL_ev env 4 rfl ⟨tv, ⟨tv, ⟨⟨tv, tv⟩, ⟨⟨tv, ⟨tv, tv⟩⟩, tv⟩⟩⟩⟩ ?_
      refine TL_end ?_
      refine TE_go ?_
      refine TC_cond rfl (fun hb => ?_) (fun hb => ?_)
      · replace h1 := bif_t h1 hb
        refine TC_skip ?_
        refine TE_go ?_
        refine TC_seq ?_
        refine TC_blk ?_
        refine TC_reg ?_
        refine TL_ev env 6 rfl ⟨tv, ⟨tv, ⟨⟨tv, tv⟩, ⟨⟨tv, ⟨tv, tv⟩⟩, ⟨⟨tv, ⟨tv, tv⟩⟩, ⟨tv, tv⟩⟩⟩⟩⟩⟩ ?_
        refine TL_end ?_
        refine tbn ?_
        refine TE_go ?_
        refine TC_reg ?_
        refine TL_ev env 3 rfl ⟨tv, ⟨⟨tv, ⟨tv, tv⟩⟩, ⟨tv, tv⟩⟩⟩ ?_
        refine TL_end ?_
        refine tsn ?_
        exact TE_nextr [(11200, 11200)] n (Nat.lt_succ_self n) (_, _) h1 ⟨rfl, rfl, rfl, tv⟩ ⟨rfl, tv⟩ rfl
      · replace h1 := bif_f h1 hb
        refine TC_exit ?_
        refine tsx ?_
        refine tsx ?_
        refine tbe ?_
        obtain rfl := sinj h1
        refine tsn ?_
        exact SP_ren [(10900, 11200)] _ rfl ⟨rfl, rfl, tv⟩ ⟨rfl, tv⟩ rfl
    · rintro x14 hz
      obtain rfl := hz.symm
      refine TE_go ?_
      refine TC_seq ?_
      refine TC_seq ?_
      refine TC_reg ?_
      refine TL_ev env 3 rfl ⟨tv, ⟨⟨tv, tv⟩, ⟨⟨tv, ⟨tv, tv⟩⟩, tv⟩⟩⟩ ?_
      refine TL_end ?_
      refine TE_go ?_
      obtain ⟨z1, h1, h0⟩ := bnd h0
      refine TC_cut (α := Int) (fun s => z1 = s) (fun s => [(3, .int .i64 s)]) (fun s => []) ?_ ?_
      · refine TC_cond rfl (fun hb => ?_) (fun hb => ?_)
        · replace h1 := bif_t h1 hb
          refine TC_reg ?_
          refine TL_ev env 5 rfl ⟨tv, ⟨tv, ⟨⟨tv, tv⟩, ⟨⟨tv, ⟨tv, tv⟩⟩, ⟨tv, tv⟩⟩⟩⟩⟩ ?_
          refine TL_end ?_
          obtain rfl := sinj h1
          refine tsn ?_
          exact SP_ren [] _ rfl ⟨rfl, tv⟩ tv rfl
        · replace h1 := bif_f h1 hb
          refine TC_skip ?_
          obtain rfl := sinj h1
          refine tsn ?_
          exact SP_ren [] _ rfl ⟨rfl, tv⟩ tv rfl
      · rintro x15 hz
        obtain rfl := hz.symm
        refine TE_go ?_
        refine TC_seq ?_
        refine TC_reg ?_
        refine TL_ev env 2 rfl ⟨tv, ⟨tv, tv⟩⟩ ?_
        refine TL_end ?_
        refine TE_go ?_
        refine TC_ret ?_
        obtain rfl := sinj h0
        exact TE_ret env rfl tv tv
theorem psalteryref11_Bits.ok0 {K : Nat} {p0 : Int} {p1 : Int} {p2 : Int} {p3 : Int} {p4 : Int} {p5 : Int} {p6 : Int} {p7 : Int} {p8 : Int} {p9 : Int} {q0 : Int} (h0 : psalteryref11_Bits K p0 p1 p2 p3 p4 p5 p6 p7 p8 p9 = some q0) : Fn Try.prog 38 [.agg [.int .i64 p0, .int .i64 p1, .int .i64 p2, .int .i64 p3, .int .i64 p4, .int .i64 p5, .int .i64 p6, .int .i64 p7, .int .i64 p8, .int .i64 p9]] [] (.int .i64 q0) [] := psalteryref11_Bits.ok h0
theorem psalteryref11_Bits.fnb : fnb Try.prog 38 = true := fnb_of Try.func38 rfl
def psalteryref11_Sub.res (_p0 : Int) (_p1 : Int) (_p2 : Int) (_p3 : Int) (_p4 : Int) (_p5 : Int) (_p6 : Int) (_p7 : Int) (_p8 : Int) (_p9 : Int) : Bool → MV
  | q0 => .bool q0
def psalteryref11_Sub.out (_p0 : Int) (_p1 : Int) (_p2 : Int) (_p3 : Int) (_p4 : Int) (_p5 : Int) (_p6 : Int) (_p7 : Int) (_p8 : Int) (_p9 : Int) : Bool → List (Nat × Option MObj)
  | _ => []
theorem psalteryref11_Sub.ok {K : Nat} {p0 : Int} {p1 : Int} {p2 : Int} {p3 : Int} {p4 : Int} {p5 : Int} {p6 : Int} {p7 : Int} {p8 : Int} {p9 : Int} {r : Bool} (h0 : psalteryref11_Sub K p0 p1 p2 p3 p4 p5 p6 p7 p8 p9 = some r) : Fn Try.prog 85 [.agg [.int .i64 p0, .int .i64 p1, .int .i64 p2, .int .i64 p3, .int .i64 p4, .int .i64 p5, .int .i64 p6, .int .i64 p7, .int .i64 p8, .int .i64 p9]] [] (psalteryref11_Sub.res p0 p1 p2 p3 p4 p5 p6 p7 p8 p9 r) (psalteryref11_Sub.out p0 p1 p2 p3 p4 p5 p6 p7 p8 p9 r) := by
  refine Fn_of Try.func85 rfl (Nat.le_of_ble_eq_true rfl) fun Γ => ?_
  refine TC_seq ?_
  refine TC_reg ?_
  refine TL_ev env 2 rfl ⟨tv, ⟨tv, tv⟩⟩ ?_
  refine TL_end ?_
  refine TE_go ?_
  refine TC_seq ?_
  refine TC_seq ?_
  refine TC_reg ?_
  refine TL_ev env 13 rfl ⟨tv, ⟨⟨tv, tv⟩, ⟨⟨tv, ⟨tv, tv⟩⟩, ⟨tv, ⟨fun eg => tv, ⟨fun eg => ⟨fun e => e, tv⟩, ⟨fun eg => ⟨fun e => e, ⟨tv, tv⟩⟩, ⟨⟨tv, ⟨tv, fun e => e⟩⟩, ⟨tv, ⟨fun eg => tv, ⟨fun eg => ⟨fun e => e, tv⟩, ⟨fun eg => ⟨fun e => e, ⟨tv, tv⟩⟩, ⟨⟨tv, ⟨tv, fun e => e⟩⟩, tv⟩⟩⟩⟩⟩⟩⟩⟩⟩⟩⟩⟩⟩ ?_
  refine TL_end ?_
  refine TE_go ?_
  refine TC_cond rfl (fun hb => ?_) (fun hb => ?_)
  · replace h0 := bif_t h0 hb
    refine TC_seq ?_
    refine TC_reg ?_
    refine TL_ev env 1 rfl ⟨tv, tv⟩ ?_
    refine TL_end ?_
    refine TE_go ?_
    refine TC_ret ?_
    refine tsr ?_
    obtain rfl := sinj h0
    exact TE_ret env rfl tv tv
  · replace h0 := bif_f h0 hb
    refine TC_skip ?_
    refine TE_go ?_
    refine TC_seq ?_
    refine TC_seq ?_
    refine TC_reg ?_
    refine TL_ev env 28 rfl ⟨tv, ⟨⟨tv, tv⟩, ⟨⟨tv, ⟨tv, tv⟩⟩, ⟨tv, ⟨fun eg => tv, ⟨fun eg => ⟨fun e => e, tv⟩, ⟨fun eg => ⟨fun e => e, ⟨tv, tv⟩⟩, ⟨⟨tv, ⟨tv, fun e => e⟩⟩, ⟨tv, ⟨fun eg => tv, ⟨fun eg => ⟨fun e => e, tv⟩, ⟨fun eg => ⟨fun e => e, ⟨tv, tv⟩⟩, ⟨⟨tv, ⟨tv, fun e => e⟩⟩, ⟨tv, ⟨fun eg => tv, ⟨fun eg => ⟨fun e => e, tv⟩, ⟨fun eg => ⟨fun e => e, ⟨tv, tv⟩⟩, ⟨⟨tv, ⟨tv, fun e => e⟩⟩, ⟨tv, ⟨fun eg => tv, ⟨fun eg => ⟨fun e => e, tv⟩, ⟨fun eg => ⟨fun e => e, ⟨tv, tv⟩⟩, ⟨⟨tv, ⟨tv, fun e => e⟩⟩, ⟨tv, ⟨fun eg => tv, ⟨fun eg => ⟨fun e => e, tv⟩, ⟨fun eg => ⟨fun e => e, ⟨tv, tv⟩⟩, ⟨⟨tv, ⟨tv, fun e => e⟩⟩, tv⟩⟩⟩⟩⟩⟩⟩⟩⟩⟩⟩⟩⟩⟩⟩⟩⟩⟩⟩⟩⟩⟩⟩⟩⟩⟩⟩⟩ ?_
    refine TL_end ?_
    refine TE_go ?_
    refine TC_cond rfl (fun hb => ?_) (fun hb => ?_)
    · replace h0 := bif_t h0 hb
      refine TC_seq ?_
      refine TC_reg ?_
      refine TL_ev env 1 rfl ⟨tv, tv⟩ ?_
      refine TL_end ?_
      refine TE_go ?_
      refine TC_ret ?_
      refine tsr ?_
      obtain rfl := sinj h0
      exact TE_ret env rfl tv tv
    · replace h0 := bif_f h0 hb
      refine TC_skip ?_
      refine TE_go ?_
      refine TC_seq ?_
      refine TC_seq ?_
      refine TC_reg ?_
      refine TL_ev env 28 rfl ⟨tv, ⟨⟨tv, tv⟩, ⟨⟨tv, ⟨tv, tv⟩⟩, ⟨tv, ⟨fun eg => tv, ⟨fun eg => ⟨fun e => e, tv⟩, ⟨fun eg => ⟨fun e => e, ⟨tv, tv⟩⟩, ⟨⟨tv, ⟨fun e => e, tv⟩⟩, ⟨tv, ⟨fun eg => tv, ⟨fun eg => ⟨fun e => e, tv⟩, ⟨fun eg => ⟨fun e => e, ⟨tv, tv⟩⟩, ⟨fun eg => fun e => e, ⟨fun eg => tv, ⟨fun eg => ⟨fun e => e, tv⟩, ⟨fun eg => ⟨fun e => e, ⟨tv, tv⟩⟩, ⟨fun eg => ⟨fun e => e, ⟨((by decide : ∀ b0 b1 b2 : Bool, (!(bif b1 then b2 else false)) = true → b0 = true → ((!(bif b1 then b2 else false)) && b0) = true) _ _ _ eg), tv⟩⟩, ⟨fun eg => fun e => e, ⟨fun eg => tv, ⟨fun eg => ⟨fun e => e, tv⟩, ⟨fun eg => ⟨fun e => e, ⟨tv, tv⟩⟩, ⟨fun eg => ⟨fun e => e, ⟨((by decide : ∀ b0 b1 b2 b3 : Bool, (!(bif b2 then b3 else false)) = true → (bif b0 then b1 else false) = true → ((!(bif b2 then b3 else false)) && (bif b0 then b1 else false)) = true) _ _ _ _ eg), tv⟩⟩, ⟨fun eg => fun e => e, ⟨fun eg => tv, ⟨fun eg => ⟨fun e => e, tv⟩, ⟨fun eg => ⟨fun e => e, ⟨tv, tv⟩⟩, ⟨fun eg => ⟨fun e => e, ⟨((by decide : ∀ b0 b1 b2 b3 b4 : Bool, (!(bif b3 then b4 else false)) = true → (bif (bif b0 then b1 else false) then b2 else false) = true → ((!(bif b3 then b4 else false)) && (bif (bif b0 then b1 else false) then b2 else false)) = true) _ _ _ _ _ eg), tv⟩⟩, ⟨⟨tv, ⟨tv, fun e => e⟩⟩, tv⟩⟩⟩⟩⟩⟩⟩⟩⟩⟩⟩⟩⟩⟩⟩⟩⟩⟩⟩⟩⟩⟩⟩⟩⟩⟩⟩⟩ ?_
      refine TL_end ?_
      refine TE_go ?_
      refine TC_cond rfl (fun hb => ?_) (fun hb => ?_)
      · replace h0 := bif_t h0 hb
        refine TC_seq ?_
        refine TC_reg ?_
        refine TL_ev env 1 rfl ⟨tv, tv⟩ ?_
        refine TL_end ?_
        refine TE_go ?_
        refine TC_ret ?_
        refine tsr ?_
        obtain rfl := sinj h0
        exact TE_ret env rfl tv tv
      · replace h0 := bif_f h0 hb
        refine TC_skip ?_
        refine TE_go ?_
        refine TC_seq ?_
        refine TC_seq ?_
        refine TC_reg ?_
        refine TL_ev env 13 rfl ⟨tv, ⟨⟨tv, tv⟩, ⟨⟨tv, ⟨tv, tv⟩⟩, ⟨tv, ⟨fun eg => tv, ⟨fun eg => ⟨fun e => e, tv⟩, ⟨fun eg => ⟨fun e => e, ⟨tv, tv⟩⟩, ⟨fun eg => fun e => e, ⟨fun eg => tv, ⟨fun eg => ⟨fun e => e, tv⟩, ⟨fun eg => ⟨fun e => e, ⟨tv, tv⟩⟩, ⟨fun eg => ⟨fun e => e, ⟨tv, ((by decide : ∀ b0 b1 : Bool, b1 = true → (!b0) = true → (b1 && (!b0)) = true) _ _ eg)⟩⟩, ⟨⟨tv, ⟨fun e => e, tv⟩⟩, tv⟩⟩⟩⟩⟩⟩⟩⟩⟩⟩⟩⟩⟩ ?_
        refine TL_end ?_
        refine TE_go ?_
        refine TC_cond rfl (fun hb => ?_) (fun hb => ?_)
        · replace h0 := bif_t h0 hb
          refine TC_seq ?_
          refine TC_reg ?_
          refine TL_ev env 1 rfl ⟨tv, tv⟩ ?_
          refine TL_end ?_
          refine TE_go ?_
          refine TC_ret ?_
          refine tsr ?_
          obtain rfl := sinj h0
          exact TE_ret env rfl tv tv
        · replace h0 := bif_f h0 hb
          refine TC_skip ?_
          refine TE_go ?_
          refine TC_seq ?_
          obtain ⟨z1, h1, h0⟩ := bnd h0
          refine TC_cut (α := Bool) (fun s => z1 = s) (fun s => [(2, .bool s)]) (fun s => []) ?_ ?_
          · refine TC_reg ?_
            refine TL_ev env 20 rfl ⟨tv, ⟨⟨tv, tv⟩, ⟨⟨tv, ⟨tv, tv⟩⟩, ⟨tv, ⟨fun eg => tv, ⟨fun eg => ⟨fun e => e, tv⟩, ⟨fun eg => ⟨fun e => e, ⟨tv, tv⟩⟩, ⟨⟨tv, ⟨fun e => e, tv⟩⟩, ⟨tv, ⟨fun eg => tv, ⟨fun eg => ⟨fun e => e, tv⟩, ⟨fun eg => tv, ⟨fun eg => ⟨fun e => e, tv⟩, ⟨fun eg => ⟨tv, ⟨fun e => e, tv⟩⟩, ⟨fun eg => tv, ⟨fun eg => ⟨fun e => e, tv⟩, ⟨fun eg => ⟨fun e => e, ⟨fun e => e, tv⟩⟩, ⟨fun eg => ⟨fun e => e, ⟨fun e => e, tv⟩⟩, ⟨⟨tv, ⟨fun e => e, tv⟩⟩, ⟨tv, tv⟩⟩⟩⟩⟩⟩⟩⟩⟩⟩⟩⟩⟩⟩⟩⟩⟩⟩⟩⟩ ?_
            refine TL_split 104 rfl (fun hb => ?_) (fun hb => ?_)
            · replace h1 := bif_t h1 hb
              refine TL_gt rfl rfl rfl rfl ?_
              refine TL_ev env 1 rfl ⟨⟨tv, tv⟩, tv⟩ ?_
              refine TL_gt rfl rfl rfl rfl ?_
              obtain ⟨r32, hr, h1⟩ := bnd h1
              refine TL_callB [] (psalteryref11_Bits.ok0 hr) psalteryref11_Bits.fnb rfl ⟨tv, ⟨tv, tv⟩⟩ rfl tv rfl ?_
              refine TL_gt rfl rfl rfl rfl ?_
              refine TL_ev env 3 rfl ⟨⟨tv, ⟨tv, tv⟩⟩, ⟨⟨tv, ⟨tv, tv⟩⟩, ⟨tv, tv⟩⟩⟩ ?_
              refine TL_end ?_
              obtain rfl := sinj h1
              refine tsn ?_
              exact SP_ren [] _ rfl ⟨rfl, tv⟩ tv rfl
            · replace h1 := bif_f h1 hb
              refine TL_gf (.bool false) rfl rfl rfl rfl rfl (by decide) ?_
              refine TL_gf (.bool false) rfl rfl rfl rfl rfl (by decide) ?_
              refine TL_gf (.bool false) rfl rfl rfl rfl rfl (by decide) ?_
              refine TL_ev env 2 rfl ⟨⟨tv, ⟨fun e => e, tv⟩⟩, ⟨tv, tv⟩⟩ ?_
              refine TL_end ?_
              obtain rfl := sinj h1
              refine tsn ?_
              exact SP_ren [] _ rfl ⟨rfl, tv⟩ tv rfl
          · rintro x24 hz
            obtain rfl := hz.symm
            refine TE_go ?_
            refine TC_ret ?_
            obtain rfl := sinj h0
            exact TE_ret env rfl tv tv
theorem psalteryref11_Sub.ok0 {K : Nat} {p0 : Int} {p1 : Int} {p2 : Int} {p3 : Int} {p4 : Int} {p5 : Int} {p6 : Int} {p7 : Int} {p8 : Int} {p9 : Int} {q0 : Bool} (h0 : psalteryref11_Sub K p0 p1 p2 p3 p4 p5 p6 p7 p8 p9 = some q0) : Fn Try.prog 85 [.agg [.int .i64 p0, .int .i64 p1, .int .i64 p2, .int .i64 p3, .int .i64 p4, .int .i64 p5, .int .i64 p6, .int .i64 p7, .int .i64 p8, .int .i64 p9]] [] (.bool q0) [] := psalteryref11_Sub.ok h0
theorem psalteryref11_Sub.fnb : fnb Try.prog 85 = true := fnb_of Try.func85 rfl
def psalteryref12_May.res (_p0 : Int) (_p1 : Int) (_p2 : Int) (_p3 : Int) (_p4 : Int) (_p5 : Int) (_p6 : Int) (_p7 : Int) (_p8 : Int) (_p9 : Int) (_p10 : List (List (Int))) : Int → MV
  | q0 => .int .i64 q0
def psalteryref12_May.out (_p0 : Int) (_p1 : Int) (_p2 : Int) (_p3 : Int) (_p4 : Int) (_p5 : Int) (_p6 : Int) (_p7 : Int) (_p8 : Int) (_p9 : Int) (_p10 : List (List (Int))) : Int → List (Nat × Option MObj)
  | _ => []
theorem psalteryref12_May.ok {K : Nat} {p0 : Int} {p1 : Int} {p2 : Int} {p3 : Int} {p4 : Int} {p5 : Int} {p6 : Int} {p7 : Int} {p8 : Int} {p9 : Int} {p10 : List (List (Int))} {r : Int} (h0 : psalteryref12_May K p0 p1 p2 p3 p4 p5 p6 p7 p8 p9 p10 = some r) : Fn Try.prog 54 [.agg [.int .i64 p0, .int .i64 p1, .int .i64 p2, .int .i64 p3, .int .i64 p4, .int .i64 p5, .int .i64 p6, .int .i64 p7, .int .i64 p8, .int .i64 p9], .im (.slice (.slice (.int .i64))) p10] [] (psalteryref12_May.res p0 p1 p2 p3 p4 p5 p6 p7 p8 p9 p10 r) (psalteryref12_May.out p0 p1 p2 p3 p4 p5 p6 p7 p8 p9 p10 r) := by
  refine Fn_of Try.func54 rfl (Nat.le_of_ble_eq_true rfl) fun Γ => ?_
  refine TC_seq ?_
  refine TC_reg ?_
  refine TL_ev env 2 rfl ⟨tv, ⟨tv, tv⟩⟩ ?_
  refine TL_end ?_
  refine TE_go ?_
  refine TC_seq ?_
  refine TC_seq ?_
  refine TC_reg ?_
  refine TL_ev env 1 rfl ⟨⟨tv, tv⟩, tv⟩ ?_
  obtain ⟨r12, hr, h0⟩ := bnd h0
  refine TL_callB [] (psalteryref11_Sub.ok0 hr) psalteryref11_Sub.fnb rfl ⟨tv, ⟨tv, tv⟩⟩ rfl tv rfl ?_
  refine TL_ev env 1 rfl ⟨tv, tv⟩ ?_
  refine TL_end ?_
  refine TE_go ?_
  refine TC_cond rfl (fun hb => ?_) (fun hb => ?_)
  · replace h0 := bif_t h0 hb
    refine TC_seq ?_
    refine TC_reg ?_
    refine TL_ev env 1 rfl ⟨tv, tv⟩ ?_
    refine TL_end ?_
    refine TE_go ?_
    refine TC_ret ?_
    refine tsr ?_
    obtain rfl := sinj h0
    exact TE_ret env rfl tv tv
  · replace h0 := bif_f h0 hb
    refine TC_skip ?_
    refine TE_go ?_
    refine TC_seq ?_
    refine TC_seq ?_
    refine TC_reg ?_
    refine TL_ev env 5 rfl ⟨tv, ⟨⟨tv, tv⟩, ⟨tv, ⟨⟨tv, tv⟩, ⟨⟨tv, ⟨tv, tv⟩⟩, tv⟩⟩⟩⟩⟩ ?_
    refine TL_end ?_
    refine TE_go ?_
    refine TC_cond rfl (fun hb => ?_) (fun hb => ?_)
    · replace h0 := bif_t h0 hb
      refine TC_seq ?_
      refine TC_reg ?_
      refine TL_ev env 1 rfl ⟨tv, tv⟩ ?_
      refine TL_end ?_
      refine TE_go ?_
      refine TC_ret ?_
      refine tsr ?_
      obtain rfl := sinj h0
      exact TE_ret env rfl tv tv
    · replace h0 := bif_f h0 hb
      refine TC_skip ?_
      refine TE_go ?_
      refine TC_seq ?_
      refine TC_seq ?_
      refine TC_reg ?_
      refine TL_ev env 1 rfl ⟨tv, tv⟩ ?_
      refine TL_end ?_
      refine TE_go ?_
      obtain ⟨z1, h1, h0⟩ := bnd h0
      refine TC_cut (α := Unit) (fun _ => z1 = .inl ()) (fun _ => []) (fun _ => []) ?_ ?_
      · refine TC_blk ?_
        refine TC_loop (α := Int) (fun n s => psalteryref12_May.l0 K p10 p0 p1 p2 p3 p4 p5 p6 p7 p8 p9 n s = some z1) (fun s => [(1, .im (.slice (.slice (.int .i64))) p10), (2, .p 15000 0), (5, .int .i64 s)]) (fun s => [(15000, some (.cells [.int .i64 p0, .int .i64 p1, .int .i64 p2, .int .i64 p3, .int .i64 p4, .int .i64 p5, .int .i64 p6, .int .i64 p7, .int .i64 p8, .int .i64 p9]))]) K ?_ ?_
        · exact SP_ren [(15000, 1002)] _ h1 ⟨rfl, rfl, rfl, tv⟩ ⟨rfl, tv⟩ rfl
        rintro n x28 h1
        rcases n with _ | n
        · exact (nsome h1).elim
        replace h1 : psalteryref12_May.r0 K p10 p0 p1 p2 p3 p4 p5 p6 p7 p8 p9 (psalteryref12_May.l0 K p10 p0 p1 p2 p3 p4 p5 p6 p7 p8 p9 n) x28 = some z1 := h1
        refine TC_seq ?_
        refine TC_seq ?_
        refine TC_reg ?_
        refine TL_ev env 4 rfl ⟨tv, ⟨tv, ⟨⟨tv, tv⟩, ⟨⟨tv, ⟨tv, tv⟩⟩, tv⟩⟩⟩⟩ ?_
        refine TL_end ?_
        refine TE_go ?_
        refine TC_cond rfl (fun hb => ?_) (fun hb => ?_)
        · replace h1 := bif_t h1 hb
          refine TC_skip ?_
          refine TE_go ?_
          refine TC_seq ?_
          refine TC_blk ?_
          refine TC_seq ?_
          refine TC_seq ?_
          refine TC_renw (A' := [(1, .im (.slice (.slice (.int .i64))) _), (2, .p 15000 0), (5, .int .i64 _)]) (L' := [(15000, some (.cells [.int .i64 _, .int .i64 _, .int .i64 _, .int .i64 _, .int .i64 _, .int .i64 _, .int .i64 _, .int .i64 _, .int .i64 _, .int .i64 _]))]) [] ⟨rfl, rfl, rfl, tv⟩ ⟨rfl, tv⟩ rfl ?_
          refine TC_drawR ⟨_, fun i => ([[], [], [1, 0], [2, 1, 0], [3, 2, 1, 0], [], [5], [6, 5, 4, 3, 2, 1, 0]] : List (List Nat)).getD i [], fun i => ([[], [], [], [], [], [], [], []] : List (List Nat)).getD i [], fun i => ([[], [], [], [], [], [], [], []] : List (List Nat)).getD i []⟩ (fun i => ([[], [], [], [], [], [], [], []] : List (List Nat)).getD i []) (by kernel_rfl) (by kernel_rfl) ?_
          refine AJR_ev env 1 rfl (Nat.le_of_ble_eq_true rfl) rfl tv ?_
          refine AJR_ev env 2 rfl (Nat.le_of_ble_eq_true rfl) rfl tv ?_
          obtain ⟨g, h1⟩ := gd_t h1
          refine AJR_ev env 3 rfl (Nat.le_of_ble_eq_true rfl) rfl ⟨tv, ⟨tv, ⟨g.1, g.2⟩⟩⟩ ?_
          refine AJR_ev env 4 rfl (Nat.le_of_ble_eq_true rfl) rfl ⟨tv, tv⟩ ?_
          refine AJR_ev env 5 rfl (Nat.le_of_ble_eq_true rfl) rfl ⟨tv, tv⟩ ?_
          refine AJR_ev env 6 rfl (Nat.le_of_ble_eq_true rfl) rfl tv ?_
          refine AJR_ev env 7 rfl (Nat.le_of_ble_eq_true rfl) rfl ⟨tv, tv⟩ ?_
          refine AJR_ev env 8 rfl (Nat.le_of_ble_eq_true rfl) rfl ⟨tv, ⟨tv, tv⟩⟩ ?_
          refine AJR_end rfl rfl rfl ?_
          refine TE_go ?_
          refine TC_cond rfl (fun hb => ?_) (fun hb => ?_)
          · replace h1 := bif_t h1 hb
            refine TC_seq ?_
            refine TC_reg ?_
            refine TL_ev env 1 rfl ⟨tv, tv⟩ ?_
            refine TL_end ?_
            refine TE_go ?_
            refine TC_ret ?_
            refine tsr ?_
            refine tbr ?_
            refine tsr ?_
            refine tsr ?_
            refine tbr ?_
            refine tsr ?_
            refine tsr ?_
            obtain rfl := sinj h1
            obtain rfl := sinj h0
            exact TE_ret env rfl tv tv
          · replace h1 := bif_f h1 hb
            refine TC_skip ?_
            refine TE_go ?_
            refine TC_seq ?_
            refine TC_reg ?_
            refine TL_ev env 1 rfl ⟨tv, tv⟩ ?_
            refine TL_end ?_
            refine TE_go ?_
            obtain ⟨z2, h2, h1⟩ := bnd h1
            refine TC_cut (α := Unit) (fun _ => z2 = .inl ()) (fun _ => [(1, .im (.slice (.slice (.int .i64))) p10), (2, .p 16700 0), (5, .int .i64 x28)]) (fun _ => [(16700, some (.cells [.int .i64 p0, .int .i64 p1, .int .i64 p2, .int .i64 p3, .int .i64 p4, .int .i64 p5, .int .i64 p6, .int .i64 p7, .int .i64 p8, .int .i64 p9]))]) ?_ ?_
            · refine TC_blk ?_
              refine TC_loop (α := Int) (fun n s => psalteryref12_May.l1 K p10 x28 p0 p1 p2 p3 p4 p5 p6 p7 p8 p9 n s = some z2) (fun s => [(1, .im (.slice (.slice (.int .i64))) p10), (2, .p 16900 0), (5, .int .i64 x28), (6, .int .i64 s)]) (fun s => [(16900, some (.cells [.int .i64 p0, .int .i64 p1, .int .i64 p2, .int .i64 p3, .int .i64 p4, .int .i64 p5, .int .i64 p6, .int .i64 p7, .int .i64 p8, .int .i64 p9]))]) K ?_ ?_
              · exact SP_ren [(16900, 15000)] _ h2 ⟨rfl, rfl, rfl, rfl, tv⟩ ⟨rfl, tv⟩ rfl
              rintro n x42 h2
              rcases n with _ | n
              · exact (nsome h2).elim
              replace h2 : psalteryref12_May.r1 K p10 x28 p0 p1 p2 p3 p4 p5 p6 p7 p8 p9 (psalteryref12_May.l1 K p10 x28 p0 p1 p2 p3 p4 p5 p6 p7 p8 p9 n) x42 = some z2 := h2
              refine TC_seq ?_
              refine TC_seq ?_
              refine TC_reg ?_
              refine TL_ev env 4 rfl ⟨tv, ⟨tv, ⟨⟨tv, tv⟩, ⟨⟨tv, ⟨tv, tv⟩⟩, tv⟩⟩⟩⟩ ?_
              refine TL_end ?_
              refine TE_go ?_
              refine TC_cond rfl (fun hb => ?_) (fun hb => ?_)
              · replace h2 := bif_t h2 hb
                refine TC_skip ?_
                refine TE_go ?_
                refine TC_seq ?_
                refine TC_blk ?_
                refine TC_seq ?_
                refine TC_reg ?_
                obtain ⟨g, h2⟩ := gd_t h2
                refine TL_ev env 18 rfl ⟨tv, ⟨tv, ⟨⟨tv, ⟨tv, ⟨g.1, g.2.1⟩⟩⟩, ⟨⟨tv, tv⟩, ⟨tv, ⟨⟨tv, ⟨tv, ⟨g.2.2.1, g.2.2.2.1⟩⟩⟩, ⟨⟨tv, tv⟩, ⟨⟨tv, ⟨tv, tv⟩⟩, ⟨tv, ⟨fun eg => tv, ⟨fun eg => tv, ⟨fun eg => ⟨fun e => e, ⟨fun e => e, ⟨(g.2.2.2.2.1 eg), (g.2.2.2.2.2.1 eg)⟩⟩⟩, ⟨fun eg => ⟨fun e => e, tv⟩, ⟨fun eg => tv, ⟨fun eg => ⟨fun e => e, ⟨fun e => e, ⟨(g.2.2.2.2.2.2.1 eg), (g.2.2.2.2.2.2.2 eg)⟩⟩⟩, ⟨fun eg => ⟨fun e => e, tv⟩, ⟨fun eg => ⟨fun e => e, ⟨tv, tv⟩⟩, ⟨⟨tv, ⟨tv, fun e => e⟩⟩, tv⟩⟩⟩⟩⟩⟩⟩⟩⟩⟩⟩⟩⟩⟩⟩⟩⟩⟩ ?_
                refine TL_end ?_
                refine TE_go ?_
                refine TC_cond rfl (fun hb => ?_) (fun hb => ?_)
                · replace h2 := bif_t h2 hb
                  refine TC_seq ?_
                  refine TC_reg ?_
                  refine TL_ev env 1 rfl ⟨tv, tv⟩ ?_
                  refine TL_end ?_
                  refine TE_go ?_
                  refine TC_ret ?_
                  refine tbr ?_
                  refine tsr ?_
                  refine tsr ?_
                  refine tbr ?_
                  refine tsr ?_
                  refine tbr ?_
                  refine tsr ?_
                  refine tsr ?_
                  refine tbr ?_
                  refine tsr ?_
                  refine tsr ?_
                  obtain rfl := sinj h2
                  obtain rfl := sinj h1
                  obtain rfl := sinj h0
                  exact TE_ret env rfl tv tv
                · replace h2 := bif_f h2 hb
                  refine TC_skip ?_
                  refine tbn ?_
                  refine TE_go ?_
                  refine TC_reg ?_
                  refine TL_ev env 3 rfl ⟨tv, ⟨⟨tv, ⟨tv, tv⟩⟩, ⟨tv, tv⟩⟩⟩ ?_
                  refine TL_end ?_
                  refine tsn ?_
                  exact TE_nextr [(16900, 16900)] n (Nat.lt_succ_self n) _ h2 ⟨rfl, rfl, rfl, rfl, tv⟩ ⟨rfl, tv⟩ rfl
              · replace h2 := bif_f h2 hb
                refine TC_exit ?_
                refine tsx ?_
                refine tsx ?_
                refine tbe ?_
                obtain rfl := sinj h2
                refine tsn ?_
                exact SP_ren [(16700, 16900)] () rfl ⟨rfl, rfl, rfl, tv⟩ ⟨rfl, tv⟩ rfl
            · rintro ⟨⟩ rfl
              refine tbn ?_
              refine TE_go ?_
              refine TC_reg ?_
              refine TL_ev env 3 rfl ⟨tv, ⟨⟨tv, ⟨tv, tv⟩⟩, ⟨tv, tv⟩⟩⟩ ?_
              refine TL_end ?_
              refine tsn ?_
              exact TE_nextr [(15000, 16700)] n (Nat.lt_succ_self n) _ h1 ⟨rfl, rfl, rfl, tv⟩ ⟨rfl, tv⟩ rfl
        · replace h1 := bif_f h1 hb
          refine TC_exit ?_
          refine tsx ?_
          refine tsx ?_
          refine tbe ?_
          obtain rfl := sinj h1
          refine tsn ?_
          exact SP_ren [] () rfl tv tv rfl
      · rintro ⟨⟩ rfl
        refine TE_go ?_
        refine TC_seq ?_
        refine TC_reg ?_
        refine TL_ev env 1 rfl ⟨tv, tv⟩ ?_
        refine TL_end ?_
        refine TE_go ?_
        refine TC_ret ?_
        obtain rfl := sinj h0
        exact TE_ret env rfl tv tv
theorem psalteryref12_May.ok0 {K : Nat} {p0 : Int} {p1 : Int} {p2 : Int} {p3 : Int} {p4 : Int} {p5 : Int} {p6 : Int} {p7 : Int} {p8 : Int} {p9 : Int} {p10 : List (List (Int))} {q0 : Int} (h0 : psalteryref12_May K p0 p1 p2 p3 p4 p5 p6 p7 p8 p9 p10 = some q0) : Fn Try.prog 54 [.agg [.int .i64 p0, .int .i64 p1, .int .i64 p2, .int .i64 p3, .int .i64 p4, .int .i64 p5, .int .i64 p6, .int .i64 p7, .int .i64 p8, .int .i64 p9], .im (.slice (.slice (.int .i64))) p10] [] (.int .i64 q0) [] := psalteryref12_May.ok h0
theorem psalteryref12_May.fnb : fnb Try.prog 54 = true := fnb_of Try.func54 rfl
def psalteryref12_offset.res (_p0 : Int) (_p1 : Int) (_p2 : Int) (_p3 : Int) (_p4 : Int) (_p5 : Int) (_p6 : Int) (_p7 : Int) (_p8 : Int) (_p9 : Int) (_p10 : Int) : Int → MV
  | q0 => .int .i64 q0
def psalteryref12_offset.out (_p0 : Int) (_p1 : Int) (_p2 : Int) (_p3 : Int) (_p4 : Int) (_p5 : Int) (_p6 : Int) (_p7 : Int) (_p8 : Int) (_p9 : Int) (_p10 : Int) : Int → List (Nat × Option MObj)
  | _ => []
theorem psalteryref12_offset.ok {K : Nat} {p0 : Int} {p1 : Int} {p2 : Int} {p3 : Int} {p4 : Int} {p5 : Int} {p6 : Int} {p7 : Int} {p8 : Int} {p9 : Int} {p10 : Int} {r : Int} (h0 : psalteryref12_offset K p0 p1 p2 p3 p4 p5 p6 p7 p8 p9 p10 = some r) : Fn Try.prog 107 [.agg [.int .i64 p0, .int .i64 p1, .int .i64 p2, .int .i64 p3, .int .i64 p4, .int .i64 p5, .int .i64 p6, .int .i64 p7, .int .i64 p8, .int .i64 p9], .int .i64 p10] [] (psalteryref12_offset.res p0 p1 p2 p3 p4 p5 p6 p7 p8 p9 p10 r) (psalteryref12_offset.out p0 p1 p2 p3 p4 p5 p6 p7 p8 p9 p10 r) := by
  refine Fn_of Try.func107 rfl (Nat.le_of_ble_eq_true rfl) fun Γ => ?_
  refine TC_seq ?_
  refine TC_reg ?_
  refine TL_ev env 2 rfl ⟨tv, ⟨tv, tv⟩⟩ ?_
  refine TL_end ?_
  refine TE_go ?_
  refine TC_seq ?_
  refine TC_seq ?_
  refine TC_reg ?_
  refine TL_ev env 3 rfl ⟨tv, ⟨⟨tv, tv⟩, ⟨⟨tv, ⟨tv, tv⟩⟩, tv⟩⟩⟩ ?_
  refine TL_end ?_
  refine TE_go ?_
  refine TC_cond rfl (fun hb => ?_) (fun hb => ?_)
  · replace h0 := bif_t h0 hb
    refine TC_seq ?_
    refine TC_seq ?_
    refine TC_reg ?_
    refine TL_ev env 2 rfl ⟨tv, ⟨⟨tv, ⟨tv, tv⟩⟩, tv⟩⟩ ?_
    refine TL_end ?_
    refine TE_go ?_
    refine TC_cond rfl (fun hb => ?_) (fun hb => ?_)
    · replace h0 := bif_t h0 hb
      refine TC_seq ?_
      refine TC_seq ?_
      refine TC_reg ?_
      refine TL_ev env 3 rfl ⟨tv, ⟨⟨tv, tv⟩, ⟨⟨tv, ⟨tv, tv⟩⟩, tv⟩⟩⟩ ?_
      refine TL_end ?_
      refine TE_go ?_
      refine TC_cond rfl (fun hb => ?_) (fun hb => ?_)
      · replace h0 := bif_t h0 hb
        refine TC_seq ?_
        refine TC_reg ?_
        refine TL_ev env 1 rfl ⟨tv, tv⟩ ?_
        refine TL_end ?_
        refine TE_go ?_
        refine TC_ret ?_
        refine tsr ?_
        refine tsr ?_
        refine tsr ?_
        obtain rfl := sinj h0
        exact TE_ret env rfl tv tv
      · replace h0 := bif_f h0 hb
        refine TC_skip ?_
        refine TE_go ?_
        refine TC_seq ?_
        refine TC_reg ?_
        refine TL_ev env 1 rfl ⟨tv, tv⟩ ?_
        refine TL_end ?_
        refine TE_go ?_
        refine TC_ret ?_
        refine tsr ?_
        refine tsr ?_
        obtain rfl := sinj h0
        exact TE_ret env rfl tv tv
    · replace h0 := bif_f h0 hb
      refine TC_skip ?_
      refine TE_go ?_
      refine TC_seq ?_
      refine TC_seq ?_
      refine TC_reg ?_
      refine TL_ev env 7 rfl ⟨tv, ⟨⟨tv, ⟨tv, tv⟩⟩, ⟨tv, ⟨fun eg => tv, ⟨fun eg => ⟨fun e => e, tv⟩, ⟨fun eg => ⟨fun e => e, ⟨tv, tv⟩⟩, ⟨⟨tv, ⟨fun e => e, tv⟩⟩, tv⟩⟩⟩⟩⟩⟩⟩ ?_
      refine TL_end ?_
      refine TE_go ?_
      refine TC_cond rfl (fun hb => ?_) (fun hb => ?_)
      · replace h0 := bif_t h0 hb
        refine TC_seq ?_
        refine TC_reg ?_
        refine TL_ev env 1 rfl ⟨tv, tv⟩ ?_
        refine TL_end ?_
        refine TE_go ?_
        refine TC_ret ?_
        refine tsr ?_
        refine tsr ?_
        obtain rfl := sinj h0
        exact TE_ret env rfl tv tv
      · replace h0 := bif_f h0 hb
        refine TC_skip ?_
        refine TE_go ?_
        refine TC_seq ?_
        refine TC_reg ?_
        refine TL_ev env 1 rfl ⟨tv, tv⟩ ?_
        refine TL_end ?_
        refine TE_go ?_
        refine TC_ret ?_
        refine tsr ?_
        obtain rfl := sinj h0
        exact TE_ret env rfl tv tv
  · replace h0 := bif_f h0 hb
    refine TC_skip ?_
    refine TE_go ?_
    refine TC_seq ?_
    refine TC_seq ?_
    refine TC_reg ?_
    refine TL_ev env 1 rfl ⟨tv, tv⟩ ?_
    refine TL_end ?_
    refine TE_go ?_
    obtain ⟨z1, h1, h0⟩ := bnd h0
    refine TC_cut (α := Unit) (fun _ => z1 = .inl ()) (fun _ => []) (fun _ => []) ?_ ?_
    · refine TC_blk ?_
      refine TC_seq ?_
      refine TC_reg ?_
      refine TL_ev env 2 rfl ⟨⟨tv, ⟨tv, tv⟩⟩, ⟨tv, tv⟩⟩ ?_
      refine TL_end ?_
      refine TE_go ?_
      refine TC_cond rfl (fun hb => ?_) (fun hb => ?_)
      · replace h1 := bif_t h1 hb
        refine TC_seq ?_
        refine TC_reg ?_
        refine TL_ev env 5 rfl ⟨tv, ⟨⟨tv, tv⟩, ⟨⟨tv, ⟨tv, tv⟩⟩, ⟨⟨tv, ⟨tv, tv⟩⟩, ⟨tv, tv⟩⟩⟩⟩⟩ ?_
        refine TL_end ?_
        refine TE_go ?_
        refine TC_ret ?_
        refine tbr ?_
        refine tsr ?_
        refine tsr ?_
        obtain rfl := sinj h1
        obtain rfl := sinj h0
        exact TE_ret env rfl tv tv
      · replace h1 := bif_f h1 hb
        refine TC_seq ?_
        refine TC_reg ?_
        refine TL_ev env 2 rfl ⟨⟨tv, ⟨tv, tv⟩⟩, ⟨tv, tv⟩⟩ ?_
        refine TL_end ?_
        refine TE_go ?_
        refine TC_cond rfl (fun hb => ?_) (fun hb => ?_)
        · replace h1 := bif_t h1 hb
          refine TC_seq ?_
          refine TC_reg ?_
          refine TL_ev env 3 rfl ⟨tv, ⟨⟨tv, tv⟩, ⟨⟨tv, ⟨tv, tv⟩⟩, tv⟩⟩⟩ ?_
          refine TL_end ?_
          refine TE_go ?_
          refine TC_cond rfl (fun hb => ?_) (fun hb => ?_)
          · replace h1 := bif_t h1 hb
            refine TC_seq ?_
            refine TC_reg ?_
            refine TL_ev env 1 rfl ⟨tv, tv⟩ ?_
            refine TL_end ?_
            refine TE_go ?_
            refine TC_ret ?_
            refine tbr ?_
            refine tsr ?_
            refine tsr ?_
            obtain rfl := sinj h1
            obtain rfl := sinj h0
            exact TE_ret env rfl tv tv
          · replace h1 := bif_f h1 hb
            refine TC_skip ?_
            refine tbn ?_
            obtain rfl := sinj h1
            refine tsn ?_
            exact SP_ren [] () rfl tv tv rfl
        · replace h1 := bif_f h1 hb
          refine TC_seq ?_
          refine TC_reg ?_
          refine TL_ev env 2 rfl ⟨⟨tv, ⟨tv, tv⟩⟩, ⟨tv, tv⟩⟩ ?_
          refine TL_end ?_
          refine TE_go ?_
          refine TC_cond rfl (fun hb => ?_) (fun hb => ?_)
          · replace h1 := bif_t h1 hb
            refine TC_seq ?_
            refine TC_seq ?_
            refine TC_reg ?_
            refine TL_ev env 3 rfl ⟨tv, ⟨⟨tv, tv⟩, ⟨⟨tv, ⟨tv, tv⟩⟩, tv⟩⟩⟩ ?_
            refine TL_end ?_
            refine TE_go ?_
            refine TC_cond rfl (fun hb => ?_) (fun hb => ?_)
            · replace h1 := bif_t h1 hb
              refine TC_seq ?_
              refine TC_reg ?_
              refine TL_ev env 1 rfl ⟨tv, tv⟩ ?_
              refine TL_end ?_
              refine TE_go ?_
              refine TC_ret ?_
              refine tsr ?_
              refine tbr ?_
              refine tsr ?_
              refine tsr ?_
              obtain rfl := sinj h1
              obtain rfl := sinj h0
              exact TE_ret env rfl tv tv
            · replace h1 := bif_f h1 hb
              refine TC_skip ?_
              refine TE_go ?_
              refine TC_seq ?_
              refine TC_reg ?_
              refine TL_ev env 1 rfl ⟨tv, tv⟩ ?_
              refine TL_end ?_
              refine TE_go ?_
              refine TC_ret ?_
              refine tbr ?_
              refine tsr ?_
              refine tsr ?_
              obtain rfl := sinj h1
              obtain rfl := sinj h0
              exact TE_ret env rfl tv tv
          · replace h1 := bif_f h1 hb
            refine TC_skip ?_
            refine tbn ?_
            obtain rfl := sinj h1
            refine tsn ?_
            exact SP_ren [] () rfl tv tv rfl
    · rintro ⟨⟩ rfl
      refine TE_go ?_
      refine TC_seq ?_
      refine TC_reg ?_
      refine TL_ev env 1 rfl ⟨tv, tv⟩ ?_
      refine TL_end ?_
      refine TE_go ?_
      refine TC_ret ?_
      obtain rfl := sinj h0
      exact TE_ret env rfl tv tv
theorem psalteryref12_offset.ok0 {K : Nat} {p0 : Int} {p1 : Int} {p2 : Int} {p3 : Int} {p4 : Int} {p5 : Int} {p6 : Int} {p7 : Int} {p8 : Int} {p9 : Int} {p10 : Int} {q0 : Int} (h0 : psalteryref12_offset K p0 p1 p2 p3 p4 p5 p6 p7 p8 p9 p10 = some q0) : Fn Try.prog 107 [.agg [.int .i64 p0, .int .i64 p1, .int .i64 p2, .int .i64 p3, .int .i64 p4, .int .i64 p5, .int .i64 p6, .int .i64 p7, .int .i64 p8, .int .i64 p9], .int .i64 p10] [] (.int .i64 q0) [] := psalteryref12_offset.ok h0
theorem psalteryref12_offset.fnb : fnb Try.prog 107 = true := fnb_of Try.func107 rfl
def psalteryref12_Needs.res (_p0 : Int) (_p1 : Int) (_p2 : Int) (_p3 : Int) (_p4 : Int) (_p5 : Int) (_p6 : Int) (_p7 : Int) (_p8 : Int) (_p9 : Int) (_p10 : List (List (Int))) : (List (Int)) → MV
  | q0 => .im (.slice (.int .i64)) q0
def psalteryref12_Needs.out (_p0 : Int) (_p1 : Int) (_p2 : Int) (_p3 : Int) (_p4 : Int) (_p5 : Int) (_p6 : Int) (_p7 : Int) (_p8 : Int) (_p9 : Int) (_p10 : List (List (Int))) : (List (Int)) → List (Nat × Option MObj)
  | _ => []
theorem psalteryref12_Needs.ok {K : Nat} {p0 : Int} {p1 : Int} {p2 : Int} {p3 : Int} {p4 : Int} {p5 : Int} {p6 : Int} {p7 : Int} {p8 : Int} {p9 : Int} {p10 : List (List (Int))} {r : (List (Int))} (h0 : psalteryref12_Needs K p0 p1 p2 p3 p4 p5 p6 p7 p8 p9 p10 = some r) : Fn Try.prog 56 [.agg [.int .i64 p0, .int .i64 p1, .int .i64 p2, .int .i64 p3, .int .i64 p4, .int .i64 p5, .int .i64 p6, .int .i64 p7, .int .i64 p8, .int .i64 p9], .im (.slice (.slice (.int .i64))) p10] [] (psalteryref12_Needs.res p0 p1 p2 p3 p4 p5 p6 p7 p8 p9 p10 r) (psalteryref12_Needs.out p0 p1 p2 p3 p4 p5 p6 p7 p8 p9 p10 r) := by
  refine Fn_of Try.func56 rfl (Nat.le_of_ble_eq_true rfl) fun Γ => ?_
  refine TC_seq ?_
  refine TC_reg ?_
  refine TL_ev env 2 rfl ⟨tv, ⟨tv, tv⟩⟩ ?_
  refine TL_end ?_
  refine TE_go ?_
  refine TC_seq ?_
  refine TC_reg ?_
  refine TL_ev env 1 rfl ⟨tv, tv⟩ ?_
  refine TL_end ?_
  refine TE_go ?_
  refine TC_seq ?_
  refine TC_seq ?_
  refine TC_reg ?_
  refine TL_ev env 1 rfl ⟨tv, tv⟩ ?_
  refine TL_end ?_
  refine TE_go ?_
  obtain ⟨z1, h1, h0⟩ := bnd h0
  refine TC_cut (α := (List (Int))) (fun s => z1 = s) (fun s => [(5, .sl 20400)]) (fun s => [(20400, some (.rows (.int .i64) s))]) ?_ ?_
  · refine TC_blk ?_
    refine TC_loop (α := Int × (List (Int))) (fun n s => psalteryref12_Needs.l0 K p10 p0 p1 p2 p3 p4 p5 p6 p7 p8 p9 n s.1 s.2 = some z1) (fun s => [(1, .im (.slice (.slice (.int .i64))) p10), (2, .p 23000 0), (5, .sl 23001), (6, .int .i64 s.1)]) (fun s => [(23000, some (.cells [.int .i64 p0, .int .i64 p1, .int .i64 p2, .int .i64 p3, .int .i64 p4, .int .i64 p5, .int .i64 p6, .int .i64 p7, .int .i64 p8, .int .i64 p9])), (23001, some (.rows (.int .i64) s.2))]) K ?_ ?_
    · refine TE_own 5 7005 (.int .i64) rfl (by decide) rfl rfl ?_
      exact SP_ren [(23000, 1002), (23001, 7005)] (_, _) h1 ⟨rfl, rfl, rfl, rfl, tv⟩ ⟨rfl, rfl, tv⟩ rfl
    rintro n ⟨x181, x182⟩ h1
    rcases n with _ | n
    · exact (nsome h1).elim
    replace h1 : psalteryref12_Needs.r0 K p10 p0 p1 p2 p3 p4 p5 p6 p7 p8 p9 (psalteryref12_Needs.l0 K p10 p0 p1 p2 p3 p4 p5 p6 p7 p8 p9 n) x181 x182 = some z1 := h1
    refine TC_seq ?_
    refine TC_seq ?_
    refine TC_reg ?_
    refine TL_ev env 4 rfl ⟨tv, ⟨tv, ⟨⟨tv, tv⟩, ⟨⟨tv, ⟨tv, tv⟩⟩, tv⟩⟩⟩⟩ ?_
    refine TL_end ?_
    refine TE_go ?_
    refine TC_cond rfl (fun hb => ?_) (fun hb => ?_)
    · replace h1 := bif_t h1 hb
      refine TC_skip ?_
      refine TE_go ?_
      refine TC_seq ?_
      refine TC_blk ?_
      refine TC_seq ?_
      refine TC_reg ?_
      refine TL_ev env 1 rfl ⟨tv, tv⟩ ?_
      refine TL_end ?_
      refine TE_go ?_
      obtain ⟨z2, h2, h1⟩ := bnd h1
      refine TC_cut (α := (List (Int))) (fun s => z2 = s) (fun s => [(1, .im (.slice (.slice (.int .i64))) p10), (2, .p 27900 0), (5, .sl 27901), (6, .int .i64 x181)]) (fun s => [(27900, some (.cells [.int .i64 p0, .int .i64 p1, .int .i64 p2, .int .i64 p3, .int .i64 p4, .int .i64 p5, .int .i64 p6, .int .i64 p7, .int .i64 p8, .int .i64 p9])), (27901, some (.rows (.int .i64) s))]) ?_ ?_
      · refine TC_blk ?_
        refine TC_loop (α := Int × (List (Int))) (fun n s => psalteryref12_Needs.l1 K p10 x181 p0 p1 p2 p3 p4 p5 p6 p7 p8 p9 n s.1 s.2 = some z2) (fun s => [(1, .im (.slice (.slice (.int .i64))) p10), (2, .p 28500 0), (5, .sl 28501), (6, .int .i64 x181), (7, .int .i64 s.1)]) (fun s => [(28500, some (.cells [.int .i64 p0, .int .i64 p1, .int .i64 p2, .int .i64 p3, .int .i64 p4, .int .i64 p5, .int .i64 p6, .int .i64 p7, .int .i64 p8, .int .i64 p9])), (28501, some (.rows (.int .i64) s.2))]) K ?_ ?_
        · exact SP_ren [(28500, 23000), (28501, 23001)] (_, _) h2 ⟨rfl, rfl, rfl, rfl, rfl, tv⟩ ⟨rfl, rfl, tv⟩ rfl
        rintro n ⟨x261, x262⟩ h2
        rcases n with _ | n
        · exact (nsome h2).elim
        replace h2 : psalteryref12_Needs.r1 K p10 x181 p0 p1 p2 p3 p4 p5 p6 p7 p8 p9 (psalteryref12_Needs.l1 K p10 x181 p0 p1 p2 p3 p4 p5 p6 p7 p8 p9 n) x261 x262 = some z2 := h2
        refine TC_seq ?_
        refine TC_seq ?_
        refine TC_reg ?_
        refine TL_ev env 4 rfl ⟨tv, ⟨tv, ⟨⟨tv, tv⟩, ⟨⟨tv, ⟨tv, tv⟩⟩, tv⟩⟩⟩⟩ ?_
        refine TL_end ?_
        refine TE_go ?_
        refine TC_cond rfl (fun hb => ?_) (fun hb => ?_)
        · replace h2 := bif_t h2 hb
          refine TC_skip ?_
          refine TE_go ?_
          refine TC_seq ?_
          refine TC_blk ?_
          refine TC_seq ?_
          refine TC_reg ?_
          obtain ⟨g, h2⟩ := gd_t h2
          refine TL_ev env 8 rfl ⟨tv, ⟨tv, ⟨⟨tv, ⟨tv, ⟨g.1, g.2.1⟩⟩⟩, ⟨⟨tv, tv⟩, ⟨tv, ⟨⟨tv, ⟨tv, ⟨g.2.2.1, g.2.2.2⟩⟩⟩, ⟨⟨tv, tv⟩, ⟨tv, tv⟩⟩⟩⟩⟩⟩⟩⟩ ?_
          refine TL_end ?_
          refine TE_go ?_
          refine TC_seq ?_
          refine TC_reg ?_
          refine TL_ev env 2 rfl ⟨tv, ⟨tv, tv⟩⟩ ?_
          refine TL_end ?_
          refine TE_go ?_
          refine TC_seq ?_
          refine TC_seq ?_
          refine TC_reg ?_
          refine TL_ev env 3 rfl ⟨tv, ⟨⟨tv, tv⟩, ⟨⟨tv, ⟨tv, tv⟩⟩, tv⟩⟩⟩ ?_
          refine TL_end ?_
          refine TE_go ?_
          obtain ⟨z3, h3, h2⟩ := bnd h2
          refine TC_cut (α := Int) (fun s => z3 = s) (fun s => [(1, .im (.slice (.slice (.int .i64))) p10), (2, .p 29400 0), (5, .sl 29401), (6, .int .i64 x181), (7, .int .i64 x261), (9, .int .i64 s)]) (fun s => [(29400, some (.cells [.int .i64 p0, .int .i64 p1, .int .i64 p2, .int .i64 p3, .int .i64 p4, .int .i64 p5, .int .i64 p6, .int .i64 p7, .int .i64 p8, .int .i64 p9])), (29401, some (.rows (.int .i64) x262))]) ?_ ?_
          · refine TC_cond rfl (fun hb => ?_) (fun hb => ?_)
            · replace h3 := bif_t h3 hb
              refine TC_seq ?_
              refine TC_reg ?_
              refine TL_ev env 3 rfl ⟨tv, ⟨⟨tv, tv⟩, ⟨tv, tv⟩⟩⟩ ?_
              obtain ⟨r282, hr, h3⟩ := bnd h3
              refine TL_callB [] (psalteryref12_offset.ok0 hr) psalteryref12_offset.fnb rfl ⟨tv, ⟨tv, ⟨tv, tv⟩⟩⟩ rfl tv rfl ?_
              refine TL_ev env 2 rfl ⟨⟨tv, ⟨tv, tv⟩⟩, ⟨tv, tv⟩⟩ ?_
              refine TL_end ?_
              refine TE_go ?_
              refine TC_seq ?_
              refine TC_seq ?_
              refine TC_reg ?_
              refine TL_ev env 2 rfl ⟨tv, ⟨⟨tv, ⟨tv, tv⟩⟩, tv⟩⟩ ?_
              refine TL_end ?_
              refine TE_go ?_
              obtain ⟨z4, h4, h3⟩ := bnd h3
              refine TC_cut (α := Int) (fun s => z4 = s) (fun s => [(1, .im (.slice (.slice (.int .i64))) p10), (2, .p 29500 0), (5, .sl 29501), (6, .int .i64 x181), (7, .int .i64 x261), (8, .int .i64 (Kd.nth (.int .i64) (Kd.nth (.slice (.int .i64)) p10 (Int.toNat x261)) (Int.toNat x181))), (9, .int .i64 s)]) (fun s => [(29500, some (.cells [.int .i64 p0, .int .i64 p1, .int .i64 p2, .int .i64 p3, .int .i64 p4, .int .i64 p5, .int .i64 p6, .int .i64 p7, .int .i64 p8, .int .i64 p9])), (29501, some (.rows (.int .i64) x262))]) ?_ ?_
              · refine TC_cond rfl (fun hb => ?_) (fun hb => ?_)
                · replace h4 := bif_t h4 hb
                  refine TC_reg ?_
                  refine TL_ev env 3 rfl ⟨tv, ⟨⟨tv, ⟨tv, (by decide)⟩⟩, ⟨tv, tv⟩⟩⟩ ?_
                  refine TL_end ?_
                  obtain rfl := sinj h4
                  refine tsn ?_
                  exact SP_ren [(29500, 28500), (29501, 28501)] _ rfl ⟨rfl, rfl, rfl, rfl, rfl, rfl, rfl, tv⟩ ⟨rfl, rfl, tv⟩ rfl
                · replace h4 := bif_f h4 hb
                  refine TC_skip ?_
                  obtain rfl := sinj h4
                  refine tsn ?_
                  exact SP_ren [(29500, 28500), (29501, 28501)] _ rfl ⟨rfl, rfl, rfl, rfl, rfl, rfl, rfl, tv⟩ ⟨rfl, rfl, tv⟩ rfl
              · rintro x285 hz
                obtain rfl := hz.symm
                refine TE_go ?_
                refine TC_seq ?_
                refine TC_reg ?_
                refine TL_ev env 2 rfl ⟨tv, ⟨⟨tv, ⟨tv, tv⟩⟩, tv⟩⟩ ?_
                refine TL_end ?_
                refine TE_go ?_
                refine TC_cond rfl (fun hb => ?_) (fun hb => ?_)
                · replace h3 := bif_t h3 hb
                  refine TC_reg ?_
                  refine TL_ev env 1 rfl ⟨tv, tv⟩ ?_
                  refine TL_end ?_
                  obtain rfl := sinj h3
                  refine tsn ?_
                  exact SP_ren [(29400, 29500), (29401, 29501)] _ rfl ⟨rfl, rfl, rfl, rfl, rfl, rfl, tv⟩ ⟨rfl, rfl, tv⟩ rfl
                · replace h3 := bif_f h3 hb
                  refine TC_skip ?_
                  obtain rfl := sinj h3
                  refine tsn ?_
                  exact SP_ren [(29400, 29500), (29401, 29501)] _ rfl ⟨rfl, rfl, rfl, rfl, rfl, rfl, tv⟩ ⟨rfl, rfl, tv⟩ rfl
            · replace h3 := bif_f h3 hb
              refine TC_skip ?_
              obtain rfl := sinj h3
              refine tsn ?_
              exact SP_ren [(29400, 28500), (29401, 28501)] _ rfl ⟨rfl, rfl, rfl, rfl, rfl, rfl, tv⟩ ⟨rfl, rfl, tv⟩ rfl
          · rintro x279 hz
            obtain rfl := hz.symm
            refine TE_go ?_
            refine TC_reg ?_
            obtain ⟨g, h2⟩ := gd_t h2
            refine TL_ev env 5 rfl ⟨tv, ⟨tv, ⟨⟨tv, tv⟩, ⟨⟨⟨tv, ⟨tv, tv⟩⟩, g⟩, ⟨tv, tv⟩⟩⟩⟩⟩ ?_
            refine TL_end ?_
            refine tbn ?_
            refine TE_go ?_
            refine TC_reg ?_
            refine TL_ev env 3 rfl ⟨tv, ⟨⟨tv, ⟨tv, tv⟩⟩, ⟨tv, tv⟩⟩⟩ ?_
            refine TL_end ?_
            refine tsn ?_
            exact TE_nextr [(28500, 29400), (28501, 1047)] n (Nat.lt_succ_self n) (_, _) h2 ⟨rfl, rfl, rfl, rfl, rfl, tv⟩ ⟨rfl, rfl, tv⟩ rfl
        · replace h2 := bif_f h2 hb
          refine TC_exit ?_
          refine tsx ?_
          refine tsx ?_
          refine tbe ?_
          obtain rfl := sinj h2
          refine tsn ?_
          exact SP_ren [(27900, 28500), (27901, 28501)] _ rfl ⟨rfl, rfl, rfl, rfl, tv⟩ ⟨rfl, rfl, tv⟩ rfl
      · rintro x253 hz
        obtain rfl := hz.symm
        refine tbn ?_
        refine TE_go ?_
        refine TC_reg ?_
        refine TL_ev env 3 rfl ⟨tv, ⟨⟨tv, ⟨tv, tv⟩⟩, ⟨tv, tv⟩⟩⟩ ?_
        refine TL_end ?_
        refine tsn ?_
        exact TE_nextr [(23000, 27900), (23001, 27901)] n (Nat.lt_succ_self n) (_, _) h1 ⟨rfl, rfl, rfl, rfl, tv⟩ ⟨rfl, rfl, tv⟩ rfl
    · replace h1 := bif_f h1 hb
      refine TC_exit ?_
      refine tsx ?_
      refine tsx ?_
      refine tbe ?_
      obtain rfl := sinj h1
      refine tsn ?_
      exact SP_ren [(20400, 23001)] _ rfl ⟨rfl, tv⟩ ⟨rfl, tv⟩ rfl
  · rintro x146 hz
    obtain rfl := hz.symm
    refine TE_go ?_
    refine TC_seq ?_
    refine TC_reg ?_
    refine TL_ev env 2 rfl ⟨tv, ⟨tv, tv⟩⟩ ?_
    refine TL_end ?_
    refine TE_go ?_
    refine TC_ret ?_
    refine TE_frz 20400 rfl ?_
    obtain rfl := sinj h0
    exact TE_ret env rfl tv tv
theorem psalteryref12_Needs.ok0 {K : Nat} {p0 : Int} {p1 : Int} {p2 : Int} {p3 : Int} {p4 : Int} {p5 : Int} {p6 : Int} {p7 : Int} {p8 : Int} {p9 : Int} {p10 : List (List (Int))} {q0 : List (Int)} (h0 : psalteryref12_Needs K p0 p1 p2 p3 p4 p5 p6 p7 p8 p9 p10 = some q0) : Fn Try.prog 56 [.agg [.int .i64 p0, .int .i64 p1, .int .i64 p2, .int .i64 p3, .int .i64 p4, .int .i64 p5, .int .i64 p6, .int .i64 p7, .int .i64 p8, .int .i64 p9], .im (.slice (.slice (.int .i64))) p10] [] (.im (.slice (.int .i64)) q0) [] := psalteryref12_Needs.ok h0
theorem psalteryref12_Needs.fnb : fnb Try.prog 56 = true := fnb_of Try.func56 rfl
def psalterylaw12_same.res (_p0 : List (List (Int))) (_p1 : List (Int)) : Bool → MV
  | q0 => .bool q0
def psalterylaw12_same.out (_p0 : List (List (Int))) (_p1 : List (Int)) : Bool → List (Nat × Option MObj)
  | _ => []
theorem psalterylaw12_same.ok {K : Nat} {p0 : List (List (Int))} {p1 : List (Int)} {r : Bool} (h0 : psalterylaw12_same K p0 p1 = some r) : Fn Try.prog 55 [.im (.slice (.slice (.int .i64))) p0, .im (.slice (.int .i64)) p1] [] (psalterylaw12_same.res p0 p1 r) (psalterylaw12_same.out p0 p1 r) := by
  refine Fn_of Try.func55 rfl (Nat.le_of_ble_eq_true rfl) fun Γ => ?_
  refine TC_seq ?_
  refine TC_reg ?_
  refine TL_ev env 1 rfl ⟨tv, tv⟩ ?_
  refine TL_end ?_
  refine TE_go ?_
  refine TC_seq ?_
  refine TC_seq ?_
  refine TC_reg ?_
  refine TL_ev env 1 rfl ⟨tv, tv⟩ ?_
  refine TL_end ?_
  refine TE_go ?_
  obtain ⟨z1, h1, h0⟩ := bnd h0
  refine TC_cut (α := Unit) (fun _ => z1 = .inl ()) (fun _ => [(0, .im (.slice (.slice (.int .i64))) p0), (1, .im (.slice (.int .i64)) p1)]) (fun _ => []) ?_ ?_
  · refine TC_blk ?_
    refine TC_loop (α := Int) (fun n s => psalterylaw12_same.l0 K p0 p1 n s = some z1) (fun s => [(0, .im (.slice (.slice (.int .i64))) p0), (1, .im (.slice (.int .i64)) p1), (5, .int .i64 s)]) (fun s => []) K ?_ ?_
    · exact SP_ren [] _ h1 ⟨rfl, rfl, rfl, tv⟩ tv rfl
    rintro n x29 h1
    rcases n with _ | n
    · exact (nsome h1).elim
    replace h1 : psalterylaw12_same.r0 K p0 p1 (psalterylaw12_same.l0 K p0 p1 n) x29 = some z1 := h1
    refine TC_seq ?_
    refine TC_seq ?_
    refine TC_reg ?_
    obtain ⟨g, h1⟩ := gd_t h1
    refine TL_ev env 7 rfl ⟨tv, ⟨tv, ⟨⟨tv, tv⟩, ⟨tv, ⟨⟨tv, tv⟩, ⟨⟨tv, ⟨tv, g⟩⟩, ⟨⟨tv, ⟨tv, tv⟩⟩, tv⟩⟩⟩⟩⟩⟩⟩ ?_
    refine TL_end ?_
    refine TE_go ?_
    refine TC_cond rfl (fun hb => ?_) (fun hb => ?_)
    · replace h1 := bif_t h1 hb
      refine TC_skip ?_
      refine TE_go ?_
      refine TC_seq ?_
      refine TC_blk ?_
      refine TC_seq ?_
      refine TC_reg ?_
      refine TL_ev env 1 rfl ⟨tv, tv⟩ ?_
      refine TL_end ?_
      refine TE_go ?_
      obtain ⟨z2, h2, h1⟩ := bnd h1
      refine TC_cut (α := Unit) (fun _ => z2 = .inl ()) (fun _ => [(0, .im (.slice (.slice (.int .i64))) p0), (1, .im (.slice (.int .i64)) p1), (5, .int .i64 x29)]) (fun _ => []) ?_ ?_
      · refine TC_blk ?_
        refine TC_loop (α := Int) (fun n s => psalterylaw12_same.l1 K p0 p1 x29 n s = some z2) (fun s => [(0, .im (.slice (.slice (.int .i64))) p0), (1, .im (.slice (.int .i64)) p1), (5, .int .i64 x29), (6, .int .i64 s)]) (fun s => []) K ?_ ?_
        · exact SP_ren [] _ h2 ⟨rfl, rfl, rfl, rfl, tv⟩ tv rfl
        rintro n x42 h2
        rcases n with _ | n
        · exact (nsome h2).elim
        replace h2 : psalterylaw12_same.r1 K p0 p1 x29 (psalterylaw12_same.l1 K p0 p1 x29 n) x42 = some z2 := h2
        refine TC_seq ?_
        refine TC_seq ?_
        refine TC_reg ?_
        refine TL_ev env 4 rfl ⟨tv, ⟨tv, ⟨⟨tv, tv⟩, ⟨⟨tv, ⟨tv, tv⟩⟩, tv⟩⟩⟩⟩ ?_
        refine TL_end ?_
        refine TE_go ?_
        refine TC_cond rfl (fun hb => ?_) (fun hb => ?_)
        · replace h2 := bif_t h2 hb
          refine TC_skip ?_
          refine TE_go ?_
          refine TC_seq ?_
          refine TC_blk ?_
          refine TC_seq ?_
          refine TC_renw (A' := [(0, .im (.slice (.slice (.int .i64))) _), (1, .im (.slice (.int .i64)) _), (5, .int .i64 _), (6, .int .i64 _)]) (L' := []) [] ⟨rfl, rfl, rfl, rfl, tv⟩ tv rfl ?_
          refine TC_drawR ⟨_, fun i => ([[], [], [], [2, 1], [3, 2, 1], [4, 3, 2, 1], [5, 4, 3, 2, 1, 0], [6, 5, 4, 3, 2, 1, 0], [7, 6, 5, 4, 3, 2, 1, 0], [7, 6, 5, 4, 3, 2, 1, 0], [9, 8, 7, 6, 5, 4, 3, 2, 1, 0], [10, 9, 8, 7, 6, 5, 4, 3, 2, 1, 0], [7, 6, 5, 4, 3, 2, 1, 0], [12, 11, 10, 9, 8, 7, 6, 5, 4, 3, 2, 1, 0], [13, 12, 11, 10, 9, 8, 7, 6, 5, 4, 3, 2, 1, 0], [7, 6, 5, 4, 3, 2, 1, 0], [7, 6, 5, 4, 3, 2, 1, 0], [7, 6, 5, 4, 3, 2, 1, 0], [17, 7, 6, 5, 4, 3, 2, 1, 0], [18, 17, 16, 7, 6, 5, 4, 3, 2, 1, 0], [7, 6, 5, 4, 3, 2, 1, 0], [20, 19, 18, 17, 16, 7, 6, 5, 4, 3, 2, 1, 0], [21, 20, 19, 18, 17, 16, 15, 7, 6, 5, 4, 3, 2, 1, 0], [22, 21, 20, 19, 18, 17, 16, 15, 7, 6, 5, 4, 3, 2, 1, 0], [23, 22, 21, 20, 19, 18, 17, 16, 15, 14, 13, 12, 11, 10, 9, 8, 7, 6, 5, 4, 3, 2, 1, 0], [24, 23, 22, 21, 20, 19, 18, 17, 16, 15, 14, 13, 12, 11, 10, 9, 8, 7, 6, 5, 4, 3, 2, 1, 0]] : List (List Nat)).getD i [], fun i => ([[], [], [], [], [], [], [], [], [], [], [], [], [], [], [], [], [], [], [], [], [], [], [], [], [], []] : List (List Nat)).getD i [], fun i => ([[], [], [], [], [], [], [], [], [], [], [], [], [], [], [], [], [], [], [], [], [], [], [], [], [], []] : List (List Nat)).getD i []⟩ (fun i => ([[], [], [], [], [], [], [], [], [], [], [], [], [], [], [], [], [], [], [], [], [], [], [], [], [], []] : List (List Nat)).getD i []) (by kernel_rfl) (by kernel_rfl) ?_
          refine AJR_ev env 1 rfl (Nat.le_of_ble_eq_true rfl) rfl tv ?_
          refine AJR_ev env 2 rfl (Nat.le_of_ble_eq_true rfl) rfl tv ?_
          refine AJR_ev env 3 rfl (Nat.le_of_ble_eq_true rfl) rfl tv ?_
          obtain ⟨g, h2⟩ := gd_t h2
          refine AJR_ev env 4 rfl (Nat.le_of_ble_eq_true rfl) rfl ⟨tv, ⟨tv, ⟨g.1, g.2⟩⟩⟩ ?_
          refine AJR_ev env 5 rfl (Nat.le_of_ble_eq_true rfl) rfl ⟨tv, tv⟩ ?_
          refine AJR_ev env 6 rfl (Nat.le_of_ble_eq_true rfl) rfl ⟨tv, tv⟩ ?_
          refine AJR_ev env 7 rfl (Nat.le_of_ble_eq_true rfl) rfl ⟨tv, ⟨tv, tv⟩⟩ ?_
          refine AJR_ev env 8 rfl (Nat.le_of_ble_eq_true rfl) rfl tv ?_
          refine AJR_ev env 9 rfl (Nat.le_of_ble_eq_true rfl) rfl (fun eg => tv) ?_
          refine AJR_ev env 10 rfl (Nat.le_of_ble_eq_true rfl) rfl (fun eg => tv) ?_
          obtain ⟨g, h2⟩ := gd_t h2
          refine AJR_ev env 11 rfl (Nat.le_of_ble_eq_true rfl) rfl (fun eg => ⟨fun e => e, ⟨fun e => e, ⟨(g.1 eg), (g.2 eg)⟩⟩⟩) ?_
          refine AJR_ev env 12 rfl (Nat.le_of_ble_eq_true rfl) rfl (fun eg => ⟨fun e => e, tv⟩) ?_
          refine AJR_ev env 13 rfl (Nat.le_of_ble_eq_true rfl) rfl (fun eg => tv) ?_
          obtain ⟨g, h2⟩ := gd_t h2
          refine AJR_ev env 14 rfl (Nat.le_of_ble_eq_true rfl) rfl (fun eg => ⟨fun e => e, ⟨fun e => e, ⟨(g.1 eg), (g.2 eg)⟩⟩⟩) ?_
          refine AJR_ev env 15 rfl (Nat.le_of_ble_eq_true rfl) rfl (fun eg => ⟨fun e => e, tv⟩) ?_
          refine AJR_ev env 16 rfl (Nat.le_of_ble_eq_true rfl) rfl (fun eg => tv) ?_
          refine AJR_ev env 17 rfl (Nat.le_of_ble_eq_true rfl) rfl (fun eg => tv) ?_
          refine AJR_ev env 18 rfl (Nat.le_of_ble_eq_true rfl) rfl (fun eg => tv) ?_
          refine AJR_ev env 19 rfl (Nat.le_of_ble_eq_true rfl) rfl (fun eg => ⟨fun e => e, tv⟩) ?_
          refine AJR_ev env 20 rfl (Nat.le_of_ble_eq_true rfl) rfl (fun eg => ⟨fun e => e, ⟨fun e => e, tv⟩⟩) ?_
          refine AJR_ev env 21 rfl (Nat.le_of_ble_eq_true rfl) rfl (fun eg => tv) ?_
          refine AJR_ev env 22 rfl (Nat.le_of_ble_eq_true rfl) rfl (fun eg => ⟨fun e => e, ⟨fun e => e, tv⟩⟩) ?_
          obtain ⟨g, h2⟩ := gd_t h2
          refine AJR_ev env 23 rfl (Nat.le_of_ble_eq_true rfl) rfl (fun eg => ⟨fun e => e, ⟨fun e => e, ⟨(g.1 eg), (g.2 eg)⟩⟩⟩) ?_
          refine AJR_ev env 24 rfl (Nat.le_of_ble_eq_true rfl) rfl (fun eg => ⟨fun e => e, tv⟩) ?_
          refine AJR_ev env 25 rfl (Nat.le_of_ble_eq_true rfl) rfl (fun eg => ⟨fun e => e, ⟨fun e => e, tv⟩⟩) ?_
          refine AJR_ev env 26 rfl (Nat.le_of_ble_eq_true rfl) rfl ⟨tv, ⟨tv, fun e => e⟩⟩ ?_
          refine AJR_end rfl rfl rfl ?_
          refine TE_go ?_
          refine TC_cond rfl (fun hb => ?_) (fun hb => ?_)
          · replace h2 := bif_t h2 hb
            refine TC_seq ?_
            refine TC_reg ?_
            refine TL_ev env 1 rfl ⟨tv, tv⟩ ?_
            refine TL_end ?_
            refine TE_go ?_
            refine TC_ret ?_
            refine tbr ?_
            refine tsr ?_
            refine tsr ?_
            refine tbr ?_
            refine tsr ?_
            refine tbr ?_
            refine tsr ?_
            refine tsr ?_
            refine tbr ?_
            refine tsr ?_
            refine tsr ?_
            obtain rfl := sinj h2
            obtain rfl := sinj h1
            obtain rfl := sinj h0
            exact TE_ret env rfl tv tv
          · replace h2 := bif_f h2 hb
            refine TC_skip ?_
            refine tbn ?_
            refine TE_go ?_
            refine TC_reg ?_
            refine TL_ev env 3 rfl ⟨tv, ⟨⟨tv, ⟨tv, tv⟩⟩, ⟨tv, tv⟩⟩⟩ ?_
            refine TL_end ?_
            refine tsn ?_
            exact TE_nextr [] n (Nat.lt_succ_self n) _ h2 ⟨rfl, rfl, rfl, rfl, tv⟩ tv rfl
        · replace h2 := bif_f h2 hb
          refine TC_exit ?_
          refine tsx ?_
          refine tsx ?_
          refine tbe ?_
          obtain rfl := sinj h2
          refine tsn ?_
          exact SP_ren [] () rfl ⟨rfl, rfl, rfl, tv⟩ tv rfl
      · rintro ⟨⟩ rfl
        refine tbn ?_
        refine TE_go ?_
        refine TC_reg ?_
        refine TL_ev env 3 rfl ⟨tv, ⟨⟨tv, ⟨tv, tv⟩⟩, ⟨tv, tv⟩⟩⟩ ?_
        refine TL_end ?_
        refine tsn ?_
        exact TE_nextr [] n (Nat.lt_succ_self n) _ h1 ⟨rfl, rfl, rfl, tv⟩ tv rfl
    · replace h1 := bif_f h1 hb
      refine TC_exit ?_
      refine tsx ?_
      refine tsx ?_
      refine tbe ?_
      obtain rfl := sinj h1
      refine tsn ?_
      exact SP_ren [] () rfl ⟨rfl, rfl, tv⟩ tv rfl
  · rintro ⟨⟩ rfl
    refine TE_go ?_
    refine TC_seq ?_
    refine TC_reg ?_
    obtain ⟨g, h0⟩ := gd_t h0
    refine TL_ev env 11 rfl ⟨tv, ⟨⟨tv, ⟨tv, ⟨(by decide), g⟩⟩⟩, ⟨⟨tv, tv⟩, ⟨⟨tv, tv⟩, ⟨tv, ⟨⟨tv, tv⟩, ⟨⟨tv, ⟨tv, tv⟩⟩, ⟨tv, ⟨⟨tv, tv⟩, ⟨⟨tv, ⟨tv, tv⟩⟩, ⟨tv, tv⟩⟩⟩⟩⟩⟩⟩⟩⟩⟩⟩ ?_
    refine TL_end ?_
    refine TE_go ?_
    refine TC_ret ?_
    obtain rfl := sinj h0
    exact TE_ret env rfl tv tv
theorem psalterylaw12_same.ok0 {K : Nat} {p0 : List (List (Int))} {p1 : List (Int)} {q0 : Bool} (h0 : psalterylaw12_same K p0 p1 = some q0) : Fn Try.prog 55 [.im (.slice (.slice (.int .i64))) p0, .im (.slice (.int .i64)) p1] [] (.bool q0) [] := psalterylaw12_same.ok h0
theorem psalterylaw12_same.fnb : fnb Try.prog 55 = true := fnb_of Try.func55 rfl
def psalteryref12_costs.res (_p0 : List (Int)) (_p1 : Int) : Int → MV
  | q0 => .int .i64 q0
def psalteryref12_costs.out (_p0 : List (Int)) (_p1 : Int) : Int → List (Nat × Option MObj)
  | _ => []
theorem psalteryref12_costs.ok {K : Nat} {p0 : List (Int)} {p1 : Int} {r : Int} (h0 : psalteryref12_costs K p0 p1 = some r) : Fn Try.prog 108 [.im (.slice (.int .i64)) p0, .int .i64 p1] [] (psalteryref12_costs.res p0 p1 r) (psalteryref12_costs.out p0 p1 r) := by
  refine Fn_of Try.func108 rfl (Nat.le_of_ble_eq_true rfl) fun Γ => ?_
  refine TC_seq ?_
  refine TC_reg ?_
  refine TL_ev env 1 rfl ⟨tv, tv⟩ ?_
  refine TL_end ?_
  refine TE_go ?_
  refine TC_seq ?_
  refine TC_reg ?_
  refine TL_ev env 1 rfl ⟨tv, tv⟩ ?_
  refine TL_end ?_
  refine TE_go ?_
  refine TC_seq ?_
  refine TC_seq ?_
  refine TC_reg ?_
  refine TL_ev env 1 rfl ⟨tv, tv⟩ ?_
  refine TL_end ?_
  refine TE_go ?_
  obtain ⟨z1, h1, h0⟩ := bnd h0
  refine TC_cut (α := Int) (fun s => z1 = s) (fun s => [(5, .int .i64 s)]) (fun s => []) ?_ ?_
  · refine TC_blk ?_
    refine TC_loop (α := Int × Int) (fun n s => psalteryref12_costs.l0 K p0 p1 n s.1 s.2 = some z1) (fun s => [(0, .im (.slice (.int .i64)) p0), (1, .int .i64 p1), (5, .int .i64 s.1), (6, .int .i64 s.2)]) (fun s => []) K ?_ ?_
    · exact SP_ren [] (_, _) h1 ⟨rfl, rfl, rfl, rfl, tv⟩ tv rfl
    rintro n ⟨x21, x22⟩ h1
    rcases n with _ | n
    · exact (nsome h1).elim
    replace h1 : psalteryref12_costs.r0 K p0 p1 (psalteryref12_costs.l0 K p0 p1 n) x21 x22 = some z1 := h1
    refine TC_seq ?_
    refine TC_seq ?_
    refine TC_reg ?_
    refine TL_ev env 4 rfl ⟨tv, ⟨tv, ⟨⟨tv, tv⟩, ⟨⟨tv, ⟨tv, tv⟩⟩, tv⟩⟩⟩⟩ ?_
    refine TL_end ?_
    refine TE_go ?_
    refine TC_cond rfl (fun hb => ?_) (fun hb => ?_)
    · replace h1 := bif_t h1 hb
      refine TC_skip ?_
      refine TE_go ?_
      refine TC_seq ?_
      obtain ⟨z2, h2, h1⟩ := bnd h1
      refine TC_cut (α := Int) (fun s => z2 = s) (fun s => [(0, .im (.slice (.int .i64)) p0), (1, .int .i64 p1), (5, .int .i64 s), (6, .int .i64 x22)]) (fun s => []) ?_ ?_
      · refine TC_blk ?_
        refine TC_seq ?_
        refine TC_seq ?_
        refine TC_reg ?_
        obtain ⟨g, h2⟩ := gd_t h2
        refine TL_ev env 7 rfl ⟨tv, ⟨tv, ⟨⟨tv, ⟨tv, ⟨g.1, g.2⟩⟩⟩, ⟨⟨tv, tv⟩, ⟨tv, ⟨⟨tv, ⟨tv, tv⟩⟩, ⟨⟨tv, ⟨tv, tv⟩⟩, tv⟩⟩⟩⟩⟩⟩⟩ ?_
        refine TL_end ?_
        refine TE_go ?_
        obtain ⟨z3, h3, h2⟩ := bnd h2
        refine TC_cut (α := Int) (fun s => z3 = s) (fun s => [(0, .im (.slice (.int .i64)) p0), (1, .int .i64 p1), (5, .int .i64 s), (6, .int .i64 x22)]) (fun s => []) ?_ ?_
        · refine TC_cond rfl (fun hb => ?_) (fun hb => ?_)
          · replace h3 := bif_t h3 hb
            refine TC_reg ?_
            refine TL_ev env 3 rfl ⟨tv, ⟨⟨tv, ⟨tv, tv⟩⟩, ⟨tv, tv⟩⟩⟩ ?_
            refine TL_end ?_
            obtain rfl := sinj h3
            refine tsn ?_
            exact SP_ren [] _ rfl ⟨rfl, rfl, rfl, rfl, tv⟩ tv rfl
          · replace h3 := bif_f h3 hb
            refine TC_skip ?_
            obtain rfl := sinj h3
            refine tsn ?_
            exact SP_ren [] _ rfl ⟨rfl, rfl, rfl, rfl, tv⟩ tv rfl
        · rintro x33 hz
          obtain rfl := hz.symm
          refine TE_go ?_
          refine TC_seq ?_
          refine TC_reg ?_
          obtain ⟨g, h2⟩ := gd_t h2
          refine TL_ev env 16 rfl ⟨tv, ⟨tv, ⟨⟨tv, ⟨tv, ⟨g.1, g.2.1⟩⟩⟩, ⟨⟨tv, tv⟩, ⟨tv, ⟨⟨tv, ⟨tv, tv⟩⟩, ⟨⟨tv, ⟨tv, tv⟩⟩, ⟨tv, ⟨fun eg => tv, ⟨fun eg => tv, ⟨fun eg => ⟨fun e => e, ⟨fun e => e, ⟨(g.2.2.1 eg), (g.2.2.2 eg)⟩⟩⟩, ⟨fun eg => ⟨fun e => e, tv⟩, ⟨fun eg => tv, ⟨fun eg => ⟨fun e => e, ⟨tv, tv⟩⟩, ⟨fun eg => ⟨fun e => e, ⟨fun e => e, tv⟩⟩, ⟨⟨tv, ⟨fun e => e, tv⟩⟩, tv⟩⟩⟩⟩⟩⟩⟩⟩⟩⟩⟩⟩⟩⟩⟩⟩ ?_
          refine TL_end ?_
          refine TE_go ?_
          refine TC_cond rfl (fun hb => ?_) (fun hb => ?_)
          · replace h2 := bif_t h2 hb
            refine TC_reg ?_
            refine TL_ev env 3 rfl ⟨tv, ⟨⟨tv, ⟨tv, tv⟩⟩, ⟨tv, tv⟩⟩⟩ ?_
            refine TL_end ?_
            refine tbn ?_
            obtain rfl := sinj h2
            refine tsn ?_
            exact SP_ren [] _ rfl ⟨rfl, rfl, rfl, rfl, tv⟩ tv rfl
          · replace h2 := bif_f h2 hb
            refine TC_skip ?_
            refine tbn ?_
            obtain rfl := sinj h2
            refine tsn ?_
            exact SP_ren [] _ rfl ⟨rfl, rfl, rfl, rfl, tv⟩ tv rfl
      · rintro x29 hz
        obtain rfl := hz.symm
        refine TE_go ?_
        refine TC_reg ?_
        refine TL_ev env 3 rfl ⟨tv, ⟨⟨tv, ⟨tv, tv⟩⟩, ⟨tv, tv⟩⟩⟩ ?_
        refine TL_end ?_
        refine tsn ?_
        exact TE_nextr [] n (Nat.lt_succ_self n) (_, _) h1 ⟨rfl, rfl, rfl, rfl, tv⟩ tv rfl
    · replace h1 := bif_f h1 hb
      refine TC_exit ?_
      refine tsx ?_
      refine tsx ?_
      refine tbe ?_
      obtain rfl := sinj h1
      refine tsn ?_
      exact SP_ren [] _ rfl ⟨rfl, tv⟩ tv rfl
  · rintro x18 hz
    obtain rfl := hz.symm
    refine TE_go ?_
    refine TC_seq ?_
    refine TC_reg ?_
    refine TL_ev env 2 rfl ⟨tv, ⟨tv, tv⟩⟩ ?_
    refine TL_end ?_
    refine TE_go ?_
    refine TC_ret ?_
    obtain rfl := sinj h0
    exact TE_ret env rfl tv tv
theorem psalteryref12_costs.ok0 {K : Nat} {p0 : List (Int)} {p1 : Int} {q0 : Int} (h0 : psalteryref12_costs K p0 p1 = some q0) : Fn Try.prog 108 [.im (.slice (.int .i64)) p0, .int .i64 p1] [] (.int .i64 q0) [] := psalteryref12_costs.ok h0
theorem psalteryref12_costs.fnb : fnb Try.prog 108 = true := fnb_of Try.func108 rfl
def psalteryref12_Share.res (_p0 : Int) (_p1 : Int) (_p2 : Int) (_p3 : Int) (_p4 : Int) (_p5 : Int) (_p6 : Int) (_p7 : Int) (_p8 : Int) (_p9 : Int) (_p10 : List (List (Int))) : (List (Int)) → MV
  | q0 => .im (.slice (.int .i64)) q0
def psalteryref12_Share.out (_p0 : Int) (_p1 : Int) (_p2 : Int) (_p3 : Int) (_p4 : Int) (_p5 : Int) (_p6 : Int) (_p7 : Int) (_p8 : Int) (_p9 : Int) (_p10 : List (List (Int))) : (List (Int)) → List (Nat × Option MObj)
  | _ => []
theorem psalteryref12_Share.ok {K : Nat} {p0 : Int} {p1 : Int} {p2 : Int} {p3 : Int} {p4 : Int} {p5 : Int} {p6 : Int} {p7 : Int} {p8 : Int} {p9 : Int} {p10 : List (List (Int))} {r : (List (Int))} (h0 : psalteryref12_Share K p0 p1 p2 p3 p4 p5 p6 p7 p8 p9 p10 = some r) : Fn Try.prog 57 [.agg [.int .i64 p0, .int .i64 p1, .int .i64 p2, .int .i64 p3, .int .i64 p4, .int .i64 p5, .int .i64 p6, .int .i64 p7, .int .i64 p8, .int .i64 p9], .im (.slice (.slice (.int .i64))) p10] [] (psalteryref12_Share.res p0 p1 p2 p3 p4 p5 p6 p7 p8 p9 p10 r) (psalteryref12_Share.out p0 p1 p2 p3 p4 p5 p6 p7 p8 p9 p10 r) := by
  refine Fn_of Try.func57 rfl (Nat.le_of_ble_eq_true rfl) fun Γ => ?_
  refine TC_seq ?_
  refine TC_reg ?_
  refine TL_ev env 2 rfl ⟨tv, ⟨tv, tv⟩⟩ ?_
  refine TL_end ?_
  refine TE_go ?_
  refine TC_seq ?_
  refine TC_reg ?_
  refine TL_ev env 2 rfl ⟨⟨tv, tv⟩, ⟨tv, tv⟩⟩ ?_
  obtain ⟨r53, hr, h0⟩ := bnd h0
  refine TL_callB [] (psalteryref12_Needs.ok0 hr) psalteryref12_Needs.fnb rfl ⟨tv, ⟨tv, ⟨tv, tv⟩⟩⟩ rfl tv rfl ?_
  refine TL_ev env 1 rfl ⟨tv, tv⟩ ?_
  refine TL_end ?_
  refine TE_go ?_
  refine TC_seq ?_
  refine TC_reg ?_
  obtain ⟨g, h0⟩ := gd_t h0
  refine TL_ev env 4 rfl ⟨tv, ⟨⟨tv, ⟨tv, ⟨(by decide), g⟩⟩⟩, ⟨⟨tv, tv⟩, ⟨tv, tv⟩⟩⟩⟩ ?_
  refine TL_end ?_
  refine TE_go ?_
  refine TC_seq ?_
  refine TC_seq ?_
  refine TC_reg ?_
  refine TL_ev env 1 rfl ⟨tv, tv⟩ ?_
  refine TL_end ?_
  refine TE_go ?_
  obtain ⟨z1, h1, h0⟩ := bnd h0
  refine TC_cut (α := Int) (fun s => z1 = s) (fun s => [(2, .p 13200 0), (5, .im (.slice (.int .i64)) r53), (6, .int .i64 s)]) (fun s => [(13200, some (.cells [.int .i64 p0, .int .i64 p1, .int .i64 p2, .int .i64 p3, .int .i64 p4, .int .i64 p5, .int .i64 p6, .int .i64 p7, .int .i64 p8, .int .i64 p9]))]) ?_ ?_
  · refine TC_blk ?_
    refine TC_loop (α := Int × Int) (fun n s => psalteryref12_Share.l4 K r53 p0 p1 p2 p3 p4 p5 p6 p7 p8 p9 n s.1 s.2 = some z1) (fun s => [(2, .p 18000 0), (5, .im (.slice (.int .i64)) r53), (6, .int .i64 s.1), (7, .int .i64 s.2)]) (fun s => [(18000, some (.cells [.int .i64 p0, .int .i64 p1, .int .i64 p2, .int .i64 p3, .int .i64 p4, .int .i64 p5, .int .i64 p6, .int .i64 p7, .int .i64 p8, .int .i64 p9]))]) K ?_ ?_
    · exact SP_ren [(18000, 1002)] (_, _) h1 ⟨rfl, rfl, rfl, rfl, tv⟩ ⟨rfl, tv⟩ rfl
    rintro n ⟨x195, x196⟩ h1
    rcases n with _ | n
    · exact (nsome h1).elim
    replace h1 : psalteryref12_Share.r4 K r53 p0 p1 p2 p3 p4 p5 p6 p7 p8 p9 (psalteryref12_Share.l4 K r53 p0 p1 p2 p3 p4 p5 p6 p7 p8 p9 n) x195 x196 = some z1 := h1
    refine TC_seq ?_
    refine TC_seq ?_
    refine TC_reg ?_
    refine TL_ev env 4 rfl ⟨tv, ⟨tv, ⟨⟨tv, tv⟩, ⟨⟨tv, ⟨tv, tv⟩⟩, tv⟩⟩⟩⟩ ?_
    refine TL_end ?_
    refine TE_go ?_
    refine TC_cond rfl (fun hb => ?_) (fun hb => ?_)
    · replace h1 := bif_t h1 hb
      refine TC_skip ?_
      refine TE_go ?_
      refine TC_seq ?_
      refine TC_blk ?_
      refine TC_reg ?_
      obtain ⟨g, h1⟩ := gd_t h1
      refine TL_ev env 7 rfl ⟨tv, ⟨tv, ⟨tv, ⟨⟨tv, ⟨tv, ⟨g.1, g.2⟩⟩⟩, ⟨⟨tv, tv⟩, ⟨⟨tv, ⟨tv, tv⟩⟩, ⟨tv, tv⟩⟩⟩⟩⟩⟩⟩ ?_
      refine TL_end ?_
      refine tbn ?_
      refine TE_go ?_
      refine TC_reg ?_
      refine TL_ev env 3 rfl ⟨tv, ⟨⟨tv, ⟨tv, tv⟩⟩, ⟨tv, tv⟩⟩⟩ ?_
      refine TL_end ?_
      refine tsn ?_
      exact TE_nextr [(18000, 18000)] n (Nat.lt_succ_self n) (_, _) h1 ⟨rfl, rfl, rfl, rfl, tv⟩ ⟨rfl, tv⟩ rfl
    · replace h1 := bif_f h1 hb
      refine TC_exit ?_
      refine tsx ?_
      refine tsx ?_
      refine tbe ?_
      obtain rfl := sinj h1
      refine tsn ?_
      exact SP_ren [(13200, 18000)] _ rfl ⟨rfl, rfl, rfl, tv⟩ ⟨rfl, tv⟩ rfl
  · rintro x59 hz
    obtain rfl := hz.symm
    refine TE_go ?_
    refine TC_seq ?_
    refine TC_reg ?_
    refine TL_ev env 3 rfl ⟨tv, ⟨⟨tv, ⟨tv, tv⟩⟩, ⟨tv, tv⟩⟩⟩ ?_
    refine TL_end ?_
    refine TE_go ?_
    refine TC_seq ?_
    refine TC_reg ?_
    refine TL_ev env 1 rfl ⟨tv, tv⟩ ?_
    refine TL_end ?_
    refine TE_go ?_
    refine TC_seq ?_
    refine TC_reg ?_
    refine TL_ev env 1 rfl ⟨tv, tv⟩ ?_
    refine TL_end ?_
    refine TE_go ?_
    refine TC_seq ?_
    obtain ⟨z1, h1, h0⟩ := bnd h0
    refine TC_cut (α := Int × Int × Int) (fun s => z1 = s) (fun s => [(2, .p 13700 0), (5, .im (.slice (.int .i64)) r53), (6, .int .i64 s.1), (8, .int .i64 s.2.1), (9, .int .i64 s.2.2)]) (fun s => [(13700, some (.cells [.int .i64 p0, .int .i64 p1, .int .i64 p2, .int .i64 p3, .int .i64 p4, .int .i64 p5, .int .i64 p6, .int .i64 p7, .int .i64 p8, .int .i64 p9]))]) ?_ ?_
    · refine TC_blk ?_
      refine TC_loop (α := Int × Int × Int) (fun n s => psalteryref12_Share.l3 K r53 p0 p1 p2 p3 p4 p5 p6 p7 p8 p9 n s.1 s.2.1 s.2.2 = some z1) (fun s => [(2, .p 17700 0), (5, .im (.slice (.int .i64)) r53), (6, .int .i64 s.1), (8, .int .i64 s.2.1), (9, .int .i64 s.2.2)]) (fun s => [(17700, some (.cells [.int .i64 p0, .int .i64 p1, .int .i64 p2, .int .i64 p3, .int .i64 p4, .int .i64 p5, .int .i64 p6, .int .i64 p7, .int .i64 p8, .int .i64 p9]))]) K ?_ ?_
      · exact SP_ren [(17700, 13200)] (_, _, _) h1 ⟨rfl, rfl, rfl, rfl, rfl, tv⟩ ⟨rfl, tv⟩ rfl
      rintro n ⟨x183, x184, x185⟩ h1
      rcases n with _ | n
      · exact (nsome h1).elim
      replace h1 : psalteryref12_Share.r3 K r53 p0 p1 p2 p3 p4 p5 p6 p7 p8 p9 (psalteryref12_Share.l3 K r53 p0 p1 p2 p3 p4 p5 p6 p7 p8 p9 n) x183 x184 x185 = some z1 := h1
      refine TC_blk ?_
      refine TC_seq ?_
      refine TC_reg ?_
      refine TL_ev env 3 rfl ⟨tv, ⟨⟨tv, ⟨tv, tv⟩⟩, ⟨tv, tv⟩⟩⟩ ?_
      refine TL_end ?_
      refine TE_go ?_
      refine TC_seq ?_
      refine TC_reg ?_
      refine TL_ev env 4 rfl ⟨tv, ⟨tv, ⟨⟨tv, ⟨tv, tv⟩⟩, ⟨tv, tv⟩⟩⟩⟩ ?_
      refine TL_end ?_
      refine TE_go ?_
      refine TC_seq ?_
      refine TC_reg ?_
      refine TL_ev env 2 rfl ⟨tv, ⟨tv, tv⟩⟩ ?_
      obtain ⟨r192, hr, h1⟩ := bnd h1
      refine TL_callB [] (psalteryref12_costs.ok0 hr) psalteryref12_costs.fnb rfl ⟨tv, ⟨tv, ⟨tv, tv⟩⟩⟩ rfl tv rfl ?_
      refine TL_ev env 1 rfl ⟨tv, tv⟩ ?_
      refine TL_end ?_
      refine TE_go ?_
      refine TC_seq ?_
      refine TC_reg ?_
      refine TL_ev env 6 rfl ⟨tv, ⟨tv, ⟨⟨tv, ⟨tv, tv⟩⟩, ⟨tv, ⟨⟨tv, tv⟩, ⟨⟨tv, ⟨tv, tv⟩⟩, tv⟩⟩⟩⟩⟩⟩ ?_
      refine TL_end ?_
      refine TE_go ?_
      refine TC_cond rfl (fun hb => ?_) (fun hb => ?_)
      · replace h1 := bif_t h1 hb
        refine TC_exit ?_
        refine tbx (by decide) ?_
        refine tsx ?_
        refine tbe ?_
        obtain rfl := sinj h1
        refine tsn ?_
        exact SP_ren [(13700, 17700)] (_, _, _) rfl ⟨rfl, rfl, rfl, rfl, rfl, tv⟩ ⟨rfl, tv⟩ rfl
      · replace h1 := bif_f h1 hb
        refine TC_skip ?_
        refine tbn ?_
        refine tsn ?_
        exact TE_nextr [(17700, 17700)] n (Nat.lt_succ_self n) (_, _, _) h1 ⟨rfl, rfl, rfl, rfl, rfl, tv⟩ ⟨rfl, tv⟩ rfl
    · rintro ⟨x72, x73, x74⟩ rfl
      refine TE_go ?_
      refine TC_seq ?_
      refine TC_seq ?_
      refine TC_reg ?_
      refine TL_ev env 6 rfl ⟨tv, ⟨tv, ⟨⟨tv, ⟨tv, tv⟩⟩, ⟨tv, ⟨⟨tv, tv⟩, ⟨⟨tv, ⟨tv, tv⟩⟩, tv⟩⟩⟩⟩⟩⟩ ?_
      refine TL_end ?_
      refine TE_go ?_
      obtain ⟨z1, h1, h0⟩ := bnd h0
      refine TC_cut (α := Int × Int) (fun s => z1 = s) (fun s => [(2, .p 13800 0), (5, .im (.slice (.int .i64)) r53), (6, .int .i64 s.1), (8, .int .i64 s.2)]) (fun s => [(13800, some (.cells [.int .i64 p0, .int .i64 p1, .int .i64 p2, .int .i64 p3, .int .i64 p4, .int .i64 p5, .int .i64 p6, .int .i64 p7, .int .i64 p8, .int .i64 p9]))]) ?_ ?_
      · refine TC_cond rfl (fun hb => ?_) (fun hb => ?_)
        · replace h1 := bif_t h1 hb
          refine TC_seq ?_
          refine TC_reg ?_
          refine TL_ev env 3 rfl ⟨tv, ⟨⟨tv, tv⟩, ⟨tv, tv⟩⟩⟩ ?_
          refine TL_end ?_
          refine TE_go ?_
          refine TC_reg ?_
          refine TL_ev env 3 rfl ⟨tv, ⟨⟨tv, ⟨tv, tv⟩⟩, ⟨tv, tv⟩⟩⟩ ?_
          refine TL_end ?_
          obtain rfl := sinj h1
          refine tsn ?_
          exact SP_ren [(13800, 13700)] (_, _) rfl ⟨rfl, rfl, rfl, rfl, tv⟩ ⟨rfl, tv⟩ rfl
        · replace h1 := bif_f h1 hb
          refine TC_skip ?_
          obtain rfl := sinj h1
          refine tsn ?_
          exact SP_ren [(13800, 13700)] (_, _) rfl ⟨rfl, rfl, rfl, rfl, tv⟩ ⟨rfl, tv⟩ rfl
      · rintro ⟨x76, x77⟩ rfl
        refine TE_go ?_
        refine TC_seq ?_
        refine TC_reg ?_
        obtain ⟨g, h0⟩ := gd_t h0
        refine TL_ev env 4 rfl ⟨tv, ⟨⟨tv, tv⟩, ⟨⟨tv, ⟨tv, ⟨g.1, ⟨g.2.1, g.2.2⟩⟩⟩⟩, ⟨tv, tv⟩⟩⟩⟩ ?_
        refine TL_end ?_
        refine TE_go ?_
        refine TC_seq ?_
        refine TC_seq ?_
        refine TC_reg ?_
        refine TL_ev env 1 rfl ⟨tv, tv⟩ ?_
        refine TL_end ?_
        refine TE_go ?_
        obtain ⟨z1, h1, h0⟩ := bnd h0
        refine TC_cut (α := (List (Int))) (fun s => z1 = s) (fun s => [(2, .p 14400 0), (5, .im (.slice (.int .i64)) r53), (6, .int .i64 x76), (8, .int .i64 x77), (10, .sl 14401)]) (fun s => [(14400, some (.cells [.int .i64 p0, .int .i64 p1, .int .i64 p2, .int .i64 p3, .int .i64 p4, .int .i64 p5, .int .i64 p6, .int .i64 p7, .int .i64 p8, .int .i64 p9])), (14401, some (.rows (.int .i64) s))]) ?_ ?_
        · refine TC_blk ?_
          refine TC_loop (α := Int × (List (Int))) (fun n s => psalteryref12_Share.l2 K r53 x76 x77 p0 p1 p2 p3 p4 p5 p6 p7 p8 p9 n s.1 s.2 = some z1) (fun s => [(2, .p 17100 0), (5, .im (.slice (.int .i64)) r53), (6, .int .i64 x76), (8, .int .i64 x77), (10, .sl 17101), (11, .int .i64 s.1)]) (fun s => [(17100, some (.cells [.int .i64 p0, .int .i64 p1, .int .i64 p2, .int .i64 p3, .int .i64 p4, .int .i64 p5, .int .i64 p6, .int .i64 p7, .int .i64 p8, .int .i64 p9])), (17101, some (.rows (.int .i64) s.2))]) K ?_ ?_
          · exact SP_ren [(17100, 13800), (17101, 1060)] (_, _) h1 ⟨rfl, rfl, rfl, rfl, rfl, rfl, tv⟩ ⟨rfl, rfl, tv⟩ rfl
          rintro n ⟨x164, x165⟩ h1
          rcases n with _ | n
          · exact (nsome h1).elim
          replace h1 : psalteryref12_Share.r2 K r53 x76 x77 p0 p1 p2 p3 p4 p5 p6 p7 p8 p9 (psalteryref12_Share.l2 K r53 x76 x77 p0 p1 p2 p3 p4 p5 p6 p7 p8 p9 n) x164 x165 = some z1 := h1
          refine TC_seq ?_
          refine TC_seq ?_
          refine TC_reg ?_
          refine TL_ev env 4 rfl ⟨tv, ⟨tv, ⟨⟨tv, tv⟩, ⟨⟨tv, ⟨tv, tv⟩⟩, tv⟩⟩⟩⟩ ?_
          refine TL_end ?_
          refine TE_go ?_
          refine TC_cond rfl (fun hb => ?_) (fun hb => ?_)
          · replace h1 := bif_t h1 hb
            refine TC_skip ?_
            refine TE_go ?_
            refine TC_seq ?_
            obtain ⟨z2, h2, h1⟩ := bnd h1
            refine TC_cut (α := (List (Int))) (fun s => z2 = s) (fun s => [(2, .p 17400 0), (5, .im (.slice (.int .i64)) r53), (6, .int .i64 x76), (8, .int .i64 x77), (10, .sl 17401), (11, .int .i64 x164)]) (fun s => [(17400, some (.cells [.int .i64 p0, .int .i64 p1, .int .i64 p2, .int .i64 p3, .int .i64 p4, .int .i64 p5, .int .i64 p6, .int .i64 p7, .int .i64 p8, .int .i64 p9])), (17401, some (.rows (.int .i64) s))]) ?_ ?_
            · refine TC_blk ?_
              refine TC_seq ?_
              refine TC_reg ?_
              obtain ⟨g, h2⟩ := gd_t h2
              refine TL_ev env 7 rfl ⟨tv, ⟨tv, ⟨⟨tv, ⟨tv, ⟨g.1, g.2⟩⟩⟩, ⟨⟨tv, tv⟩, ⟨tv, ⟨⟨tv, ⟨tv, tv⟩⟩, ⟨⟨tv, ⟨tv, tv⟩⟩, tv⟩⟩⟩⟩⟩⟩⟩ ?_
              refine TL_end ?_
              refine TE_go ?_
              refine TC_cond rfl (fun hb => ?_) (fun hb => ?_)
              · replace h2 := bif_t h2 hb
                refine TC_reg ?_
                obtain ⟨g, h2⟩ := gd_t h2
                refine TL_ev env 11 rfl ⟨tv, ⟨tv, ⟨tv, ⟨tv, ⟨⟨tv, ⟨tv, ⟨g.1, g.2.1⟩⟩⟩, ⟨⟨tv, tv⟩, ⟨tv, ⟨⟨tv, ⟨tv, tv⟩⟩, ⟨⟨tv, ⟨tv, tv⟩⟩, ⟨⟨tv, ⟨tv, ⟨g.2.2.1, g.2.2.2.1⟩⟩⟩, ⟨⟨tv, ⟨tv, g.2.2.2.2⟩⟩, tv⟩⟩⟩⟩⟩⟩⟩⟩⟩⟩⟩ ?_
                refine TL_end ?_
                refine tbn ?_
                obtain rfl := sinj h2
                refine tsn ?_
                exact SP_ren [(17400, 17100), (17401, 17101)] _ rfl ⟨rfl, rfl, rfl, rfl, rfl, rfl, tv⟩ ⟨rfl, rfl, tv⟩ rfl
              · replace h2 := bif_f h2 hb
                refine TC_skip ?_
                refine tbn ?_
                obtain rfl := sinj h2
                refine tsn ?_
                exact SP_ren [(17400, 17100), (17401, 17101)] _ rfl ⟨rfl, rfl, rfl, rfl, rfl, rfl, tv⟩ ⟨rfl, rfl, tv⟩ rfl
            · rintro x170 hz
              obtain rfl := hz.symm
              refine TE_go ?_
              refine TC_reg ?_
              refine TL_ev env 3 rfl ⟨tv, ⟨⟨tv, ⟨tv, tv⟩⟩, ⟨tv, tv⟩⟩⟩ ?_
              refine TL_end ?_
              refine tsn ?_
              exact TE_nextr [(17100, 17400), (17101, 17401)] n (Nat.lt_succ_self n) (_, _) h1 ⟨rfl, rfl, rfl, rfl, rfl, rfl, tv⟩ ⟨rfl, rfl, tv⟩ rfl
          · replace h1 := bif_f h1 hb
            refine TC_exit ?_
            refine tsx ?_
            refine tsx ?_
            refine tbe ?_
            obtain rfl := sinj h1
            refine tsn ?_
            exact SP_ren [(14400, 17100), (14401, 17101)] _ rfl ⟨rfl, rfl, rfl, rfl, rfl, tv⟩ ⟨rfl, rfl, tv⟩ rfl
        · rintro x85 hz
          obtain rfl := hz.symm
          refine TE_go ?_
          refine TC_seq ?_
          refine TC_seq ?_
          refine TC_reg ?_
          refine TL_ev env 1 rfl ⟨tv, tv⟩ ?_
          refine TL_end ?_
          refine TE_go ?_
          obtain ⟨z1, h1, h0⟩ := bnd h0
          refine TC_cut (α := Int × (List (Int))) (fun s => z1 = s) (fun s => [(2, .p 15000 0), (5, .im (.slice (.int .i64)) r53), (8, .int .i64 s.1), (10, .sl 15001)]) (fun s => [(15000, some (.cells [.int .i64 p0, .int .i64 p1, .int .i64 p2, .int .i64 p3, .int .i64 p4, .int .i64 p5, .int .i64 p6, .int .i64 p7, .int .i64 p8, .int .i64 p9])), (15001, some (.rows (.int .i64) s.2))]) ?_ ?_
          · refine TC_blk ?_
            refine TC_loop (α := Int × Int × (List (Int))) (fun n s => psalteryref12_Share.l1 K r53 x76 p0 p1 p2 p3 p4 p5 p6 p7 p8 p9 n s.1 s.2.1 s.2.2 = some z1) (fun s => [(2, .p 16500 0), (5, .im (.slice (.int .i64)) r53), (6, .int .i64 x76), (8, .int .i64 s.1), (10, .sl 16501), (12, .int .i64 s.2.1)]) (fun s => [(16500, some (.cells [.int .i64 p0, .int .i64 p1, .int .i64 p2, .int .i64 p3, .int .i64 p4, .int .i64 p5, .int .i64 p6, .int .i64 p7, .int .i64 p8, .int .i64 p9])), (16501, some (.rows (.int .i64) s.2.2))]) K ?_ ?_
            · exact SP_ren [(16500, 14400), (16501, 14401)] (_, _, _) h1 ⟨rfl, rfl, rfl, rfl, rfl, rfl, tv⟩ ⟨rfl, rfl, tv⟩ rfl
            rintro n ⟨x134, x135, x136⟩ h1
            rcases n with _ | n
            · exact (nsome h1).elim
            replace h1 : psalteryref12_Share.r1 K r53 x76 p0 p1 p2 p3 p4 p5 p6 p7 p8 p9 (psalteryref12_Share.l1 K r53 x76 p0 p1 p2 p3 p4 p5 p6 p7 p8 p9 n) x134 x135 x136 = some z1 := h1
            refine TC_seq ?_
            refine TC_seq ?_
            refine TC_reg ?_
            refine TL_ev env 10 rfl ⟨tv, ⟨tv, ⟨⟨tv, tv⟩, ⟨⟨tv, ⟨tv, tv⟩⟩, ⟨tv, ⟨fun eg => tv, ⟨fun eg => tv, ⟨fun eg => ⟨fun e => e, tv⟩, ⟨fun eg => ⟨fun e => e, ⟨fun e => e, tv⟩⟩, ⟨⟨tv, ⟨fun e => e, tv⟩⟩, tv⟩⟩⟩⟩⟩⟩⟩⟩⟩⟩ ?_
            refine TL_end ?_
            refine TE_go ?_
            refine TC_cond rfl (fun hb => ?_) (fun hb => ?_)
            · replace h1 := bif_t h1 hb
              refine TC_skip ?_
              refine TE_go ?_
              refine TC_seq ?_
              obtain ⟨z2, h2, h1⟩ := bnd h1
              refine TC_cut (α := Int × (List (Int))) (fun s => z2 = s) (fun s => [(2, .p 16800 0), (5, .im (.slice (.int .i64)) r53), (6, .int .i64 x76), (8, .int .i64 s.1), (10, .sl 16801), (12, .int .i64 x135)]) (fun s => [(16800, some (.cells [.int .i64 p0, .int .i64 p1, .int .i64 p2, .int .i64 p3, .int .i64 p4, .int .i64 p5, .int .i64 p6, .int .i64 p7, .int .i64 p8, .int .i64 p9])), (16801, some (.rows (.int .i64) s.2))]) ?_ ?_
              · refine TC_blk ?_
                refine TC_seq ?_
                refine TC_reg ?_
                obtain ⟨g, h2⟩ := gd_t h2
                refine TL_ev env 12 rfl ⟨tv, ⟨tv, ⟨⟨tv, ⟨tv, ⟨g.1, g.2.1⟩⟩⟩, ⟨⟨tv, g.2.2.1⟩, ⟨⟨tv, ⟨tv, tv⟩⟩, ⟨tv, ⟨fun eg => tv, ⟨fun eg => tv, ⟨fun eg => ⟨fun e => e, ⟨fun e => e, ⟨(g.2.2.2.1 eg), (g.2.2.2.2.1 eg)⟩⟩⟩, ⟨fun eg => ⟨fun e => e, (g.2.2.2.2.2 eg)⟩, ⟨fun eg => ⟨fun e => e, ⟨tv, tv⟩⟩, ⟨⟨tv, ⟨fun e => e, tv⟩⟩, tv⟩⟩⟩⟩⟩⟩⟩⟩⟩⟩⟩⟩ ?_
                refine TL_end ?_
                refine TE_go ?_
                refine TC_cond rfl (fun hb => ?_) (fun hb => ?_)
                · replace h2 := bif_t h2 hb
                  refine TC_seq ?_
                  refine TC_reg ?_
                  obtain ⟨g, h2⟩ := gd_t h2
                  refine TL_ev env 7 rfl ⟨tv, ⟨tv, ⟨⟨tv, ⟨tv, ⟨g.1, g.2.1⟩⟩⟩, ⟨⟨tv, g.2.2.1⟩, ⟨⟨tv, ⟨tv, tv⟩⟩, ⟨⟨tv, ⟨tv, ⟨g.2.2.2.1, g.2.2.2.2.1⟩⟩⟩, ⟨⟨tv, ⟨tv, g.2.2.2.2.2⟩⟩, tv⟩⟩⟩⟩⟩⟩⟩ ?_
                  refine TL_end ?_
                  refine TE_go ?_
                  refine TC_reg ?_
                  refine TL_ev env 3 rfl ⟨tv, ⟨⟨tv, ⟨tv, tv⟩⟩, ⟨tv, tv⟩⟩⟩ ?_
                  refine TL_end ?_
                  refine tbn ?_
                  obtain rfl := sinj h2
                  refine tsn ?_
                  exact SP_ren [(16800, 16500), (16801, 16501)] (_, _) rfl ⟨rfl, rfl, rfl, rfl, rfl, rfl, tv⟩ ⟨rfl, rfl, tv⟩ rfl
                · replace h2 := bif_f h2 hb
                  refine TC_seq ?_
                  refine TC_reg ?_
                  obtain ⟨g, h2⟩ := gd_t h2
                  refine TL_ev env 14 rfl ⟨tv, ⟨tv, ⟨⟨tv, ⟨tv, ⟨g.1, g.2⟩⟩⟩, ⟨⟨tv, tv⟩, ⟨tv, ⟨⟨tv, ⟨tv, tv⟩⟩, ⟨⟨tv, ⟨tv, tv⟩⟩, ⟨tv, ⟨fun eg => tv, ⟨fun eg => ⟨fun e => e, ⟨tv, tv⟩⟩, ⟨fun eg => tv, ⟨fun eg => ⟨fun e => e, tv⟩, ⟨fun eg => ⟨fun e => e, ⟨fun e => e, tv⟩⟩, ⟨⟨tv, ⟨fun e => e, tv⟩⟩, tv⟩⟩⟩⟩⟩⟩⟩⟩⟩⟩⟩⟩⟩⟩ ?_
                  refine TL_end ?_
                  refine TE_go ?_
                  refine TC_cond rfl (fun hb => ?_) (fun hb => ?_)
                  · replace h2 := bif_t h2 hb
                    refine TC_seq ?_
                    refine TC_reg ?_
                    obtain ⟨g, h2⟩ := gd_t h2
                    refine TL_ev env 4 rfl ⟨tv, ⟨tv, ⟨⟨tv, ⟨tv, ⟨g.1, g.2.1⟩⟩⟩, ⟨⟨tv, ⟨tv, g.2.2⟩⟩, tv⟩⟩⟩⟩ ?_
                    refine TL_end ?_
                    refine TE_go ?_
                    refine TC_reg ?_
                    refine TL_ev env 3 rfl ⟨tv, ⟨⟨tv, ⟨tv, tv⟩⟩, ⟨tv, tv⟩⟩⟩ ?_
                    refine TL_end ?_
                    refine tbn ?_
                    obtain rfl := sinj h2
                    refine tsn ?_
                    exact SP_ren [(16800, 16500), (16801, 16501)] (_, _) rfl ⟨rfl, rfl, rfl, rfl, rfl, rfl, tv⟩ ⟨rfl, rfl, tv⟩ rfl
                  · replace h2 := bif_f h2 hb
                    refine TC_skip ?_
                    refine tbn ?_
                    obtain rfl := sinj h2
                    refine tsn ?_
                    exact SP_ren [(16800, 16500), (16801, 16501)] (_, _) rfl ⟨rfl, rfl, rfl, rfl, rfl, rfl, tv⟩ ⟨rfl, rfl, tv⟩ rfl
              · rintro ⟨x145, x146⟩ rfl
                refine TE_go ?_
                refine TC_reg ?_
                refine TL_ev env 3 rfl ⟨tv, ⟨⟨tv, ⟨tv, tv⟩⟩, ⟨tv, tv⟩⟩⟩ ?_
                refine TL_end ?_
                refine tsn ?_
                exact TE_nextr [(16500, 16800), (16501, 16801)] n (Nat.lt_succ_self n) (_, _, _) h1 ⟨rfl, rfl, rfl, rfl, rfl, rfl, tv⟩ ⟨rfl, rfl, tv⟩ rfl
            · replace h1 := bif_f h1 hb
              refine TC_exit ?_
              refine tsx ?_
              refine tsx ?_
              refine tbe ?_
              obtain rfl := sinj h1
              refine tsn ?_
              exact SP_ren [(15000, 16500), (15001, 16501)] (_, _) rfl ⟨rfl, rfl, rfl, rfl, tv⟩ ⟨rfl, rfl, tv⟩ rfl
          · rintro ⟨x96, x97⟩ rfl
            refine TE_go ?_
            refine TC_seq ?_
            refine TC_seq ?_
            refine TC_reg ?_
            refine TL_ev env 1 rfl ⟨tv, tv⟩ ?_
            refine TL_end ?_
            refine TE_go ?_
            obtain ⟨z1, h1, h0⟩ := bnd h0
            refine TC_cut (α := (List (Int))) (fun s => z1 = s) (fun s => [(10, .sl 15600)]) (fun s => [(15600, some (.rows (.int .i64) s))]) ?_ ?_
            · refine TC_blk ?_
              refine TC_loop (α := Int × Int × (List (Int))) (fun n s => psalteryref12_Share.l0 K r53 p0 p1 p2 p3 p4 p5 p6 p7 p8 p9 n s.1 s.2.1 s.2.2 = some z1) (fun s => [(2, .p 15900 0), (5, .im (.slice (.int .i64)) r53), (8, .int .i64 s.1), (10, .sl 15901), (13, .int .i64 s.2.1)]) (fun s => [(15900, some (.cells [.int .i64 p0, .int .i64 p1, .int .i64 p2, .int .i64 p3, .int .i64 p4, .int .i64 p5, .int .i64 p6, .int .i64 p7, .int .i64 p8, .int .i64 p9])), (15901, some (.rows (.int .i64) s.2.2))]) K ?_ ?_
              · exact SP_ren [(15900, 15000), (15901, 15001)] (_, _, _) h1 ⟨rfl, rfl, rfl, rfl, rfl, tv⟩ ⟨rfl, rfl, tv⟩ rfl
              rintro n ⟨x111, x112, x113⟩ h1
              rcases n with _ | n
              · exact (nsome h1).elim
              replace h1 : psalteryref12_Share.r0 K r53 p0 p1 p2 p3 p4 p5 p6 p7 p8 p9 (psalteryref12_Share.l0 K r53 p0 p1 p2 p3 p4 p5 p6 p7 p8 p9 n) x111 x112 x113 = some z1 := h1
              refine TC_seq ?_
              refine TC_seq ?_
              refine TC_reg ?_
              refine TL_ev env 10 rfl ⟨tv, ⟨tv, ⟨⟨tv, tv⟩, ⟨⟨tv, ⟨tv, tv⟩⟩, ⟨tv, ⟨fun eg => tv, ⟨fun eg => tv, ⟨fun eg => ⟨fun e => e, tv⟩, ⟨fun eg => ⟨fun e => e, ⟨fun e => e, tv⟩⟩, ⟨⟨tv, ⟨fun e => e, tv⟩⟩, tv⟩⟩⟩⟩⟩⟩⟩⟩⟩⟩ ?_
              refine TL_end ?_
              refine TE_go ?_
              refine TC_cond rfl (fun hb => ?_) (fun hb => ?_)
              · replace h1 := bif_t h1 hb
                refine TC_skip ?_
                refine TE_go ?_
                refine TC_seq ?_
                obtain ⟨z2, h2, h1⟩ := bnd h1
                refine TC_cut (α := Int × (List (Int))) (fun s => z2 = s) (fun s => [(2, .p 16200 0), (5, .im (.slice (.int .i64)) r53), (8, .int .i64 s.1), (10, .sl 16201), (13, .int .i64 x112)]) (fun s => [(16200, some (.cells [.int .i64 p0, .int .i64 p1, .int .i64 p2, .int .i64 p3, .int .i64 p4, .int .i64 p5, .int .i64 p6, .int .i64 p7, .int .i64 p8, .int .i64 p9])), (16201, some (.rows (.int .i64) s.2))]) ?_ ?_
                · refine TC_blk ?_
                  refine TC_seq ?_
                  refine TC_reg ?_
                  obtain ⟨g, h2⟩ := gd_t h2
                  refine TL_ev env 12 rfl ⟨tv, ⟨tv, ⟨⟨tv, ⟨tv, ⟨g.1, g.2.1⟩⟩⟩, ⟨⟨tv, g.2.2.1⟩, ⟨⟨tv, ⟨tv, tv⟩⟩, ⟨tv, ⟨fun eg => tv, ⟨fun eg => tv, ⟨fun eg => ⟨fun e => e, ⟨fun e => e, ⟨(g.2.2.2.1 eg), (g.2.2.2.2.1 eg)⟩⟩⟩, ⟨fun eg => ⟨fun e => e, (g.2.2.2.2.2 eg)⟩, ⟨fun eg => ⟨fun e => e, ⟨tv, tv⟩⟩, ⟨⟨tv, ⟨fun e => e, tv⟩⟩, tv⟩⟩⟩⟩⟩⟩⟩⟩⟩⟩⟩⟩ ?_
                  refine TL_end ?_
                  refine TE_go ?_
                  refine TC_cond rfl (fun hb => ?_) (fun hb => ?_)
                  · replace h2 := bif_t h2 hb
                    refine TC_seq ?_
                    refine TC_reg ?_
                    obtain ⟨g, h2⟩ := gd_t h2
                    refine TL_ev env 7 rfl ⟨tv, ⟨tv, ⟨⟨tv, ⟨tv, ⟨g.1, g.2.1⟩⟩⟩, ⟨⟨tv, g.2.2.1⟩, ⟨⟨tv, ⟨tv, tv⟩⟩, ⟨⟨tv, ⟨tv, ⟨g.2.2.2.1, g.2.2.2.2.1⟩⟩⟩, ⟨⟨tv, ⟨tv, g.2.2.2.2.2⟩⟩, tv⟩⟩⟩⟩⟩⟩⟩ ?_
                    refine TL_end ?_
                    refine TE_go ?_
                    refine TC_reg ?_
                    refine TL_ev env 3 rfl ⟨tv, ⟨⟨tv, ⟨tv, tv⟩⟩, ⟨tv, tv⟩⟩⟩ ?_
                    refine TL_end ?_
                    refine tbn ?_
                    obtain rfl := sinj h2
                    refine tsn ?_
                    exact SP_ren [(16200, 15900), (16201, 15901)] (_, _) rfl ⟨rfl, rfl, rfl, rfl, rfl, tv⟩ ⟨rfl, rfl, tv⟩ rfl
                  · replace h2 := bif_f h2 hb
                    refine TC_skip ?_
                    refine tbn ?_
                    obtain rfl := sinj h2
                    refine tsn ?_
                    exact SP_ren [(16200, 15900), (16201, 15901)] (_, _) rfl ⟨rfl, rfl, rfl, rfl, rfl, tv⟩ ⟨rfl, rfl, tv⟩ rfl
                · rintro ⟨x122, x123⟩ rfl
                  refine TE_go ?_
                  refine TC_reg ?_
                  refine TL_ev env 3 rfl ⟨tv, ⟨⟨tv, ⟨tv, tv⟩⟩, ⟨tv, tv⟩⟩⟩ ?_
                  refine TL_end ?_
                  refine tsn ?_
                  exact TE_nextr [(15900, 16200), (15901, 16201)] n (Nat.lt_succ_self n) (_, _, _) h1 ⟨rfl, rfl, rfl, rfl, rfl, tv⟩ ⟨rfl, rfl, tv⟩ rfl
              · replace h1 := bif_f h1 hb
                refine TC_exit ?_
                refine tsx ?_
                refine tsx ?_
                refine tbe ?_
                obtain rfl := sinj h1
                refine tsn ?_
                exact SP_ren [(15600, 15901)] _ rfl ⟨rfl, tv⟩ ⟨rfl, tv⟩ rfl
            · rintro x108 hz
              obtain rfl := hz.symm
              refine TE_go ?_
              refine TC_seq ?_
              refine TC_reg ?_
              refine TL_ev env 2 rfl ⟨tv, ⟨tv, tv⟩⟩ ?_
              refine TL_end ?_
              refine TE_go ?_
              refine TC_ret ?_
              refine TE_frz 15600 rfl ?_
              obtain rfl := sinj h0
              exact TE_ret env rfl tv tv
theorem psalteryref12_Share.ok0 {K : Nat} {p0 : Int} {p1 : Int} {p2 : Int} {p3 : Int} {p4 : Int} {p5 : Int} {p6 : Int} {p7 : Int} {p8 : Int} {p9 : Int} {p10 : List (List (Int))} {q0 : List (Int)} (h0 : psalteryref12_Share K p0 p1 p2 p3 p4 p5 p6 p7 p8 p9 p10 = some q0) : Fn Try.prog 57 [.agg [.int .i64 p0, .int .i64 p1, .int .i64 p2, .int .i64 p3, .int .i64 p4, .int .i64 p5, .int .i64 p6, .int .i64 p7, .int .i64 p8, .int .i64 p9], .im (.slice (.slice (.int .i64))) p10] [] (.im (.slice (.int .i64)) q0) [] := psalteryref12_Share.ok h0
theorem psalteryref12_Share.fnb : fnb Try.prog 57 = true := fnb_of Try.func57 rfl
end Go.Fo
