/- Each call comes to the function that is written for it. -/
import Derived.Test.YtcaehpgdcjonfaaCtT
import Derived.Test.YtcaehpgdcjonfaaCtF
import Derived.Test.YtcaehpgdcjonfaaCtP0
namespace Go.Fo
open Go.Proofs
set_option maxRecDepth 20000
set_option maxHeartbeats 4000000
def caps_Parse.res (_p0 : List (Int)) : Int × Int × Int × Int × Int × Int × Int × Int × Int × Int × Int × Int × Int × Int × Int × Int → MV
  | (q0, q1, q2, q3, q4, q5, q6, q7, q8, q9, q10, q11, q12, q13, q14, q15) => .tup [.agg [.int .i64 q0, .int .i64 q1, .int .i64 q2, .int .i64 q3, .int .i64 q4, .int .i64 q5, .int .i64 q6, .int .i64 q7, .int .i64 q8, .int .i64 q9, .int .i64 q10, .int .i64 q11, .int .i64 q12, .int .i64 q13, .int .i64 q14], .int .i64 q15]
def caps_Parse.out (_p0 : List (Int)) : Int × Int × Int × Int × Int × Int × Int × Int × Int × Int × Int × Int × Int × Int × Int × Int → List (Nat × Option MObj)
  | (_, _, _, _, _, _, _, _, _, _, _, _, _, _, _, _) => []
theorem caps_Parse.ok {K : Nat} {p0 : List (Int)} {r : Int × Int × Int × Int × Int × Int × Int × Int × Int × Int × Int × Int × Int × Int × Int × Int} (h0 : caps_Parse K p0 = some r) : Fn Try.prog 43 [.im (.slice (.int .u8)) p0] [] (caps_Parse.res p0 r) (caps_Parse.out p0 r) := by
  refine Fn_of Try.func43 rfl (Nat.le_of_ble_eq_true rfl) fun Γ => ?_
  refine TC_seq ?_
  refine TC_reg ?_
  refine TL_ev env 2 rfl ⟨trivial, ⟨trivial, trivial⟩⟩ ?_
  refine TL_end ?_
  refine TE_go ?_
  refine TC_seq ?_
  refine TC_reg ?_
  refine TL_ev env 1 rfl ⟨trivial, trivial⟩ ?_
  refine TL_end ?_
  refine TE_go ?_
  refine TC_seq ?_
  refine TC_reg ?_
  refine TL_ev env 1 rfl ⟨trivial, trivial⟩ ?_
  refine TL_end ?_
  refine TE_go ?_
  refine TC_seq ?_
  refine TC_seq ?_
  refine TC_reg ?_
  refine TL_ev env 3 rfl ⟨trivial, ⟨⟨trivial, trivial⟩, ⟨⟨trivial, ⟨trivial, trivial⟩⟩, trivial⟩⟩⟩ ?_
  refine TL_end ?_
  refine TE_go ?_
  refine TC_cond rfl (fun hb => ?_) (fun hb => ?_)
  · replace h0 := bif_t h0 hb
    refine TC_seq ?_
    refine TC_reg ?_
    refine TL_ev env 3 rfl ⟨trivial, ⟨⟨trivial, trivial⟩, ⟨trivial, trivial⟩⟩⟩ ?_
    refine TL_end ?_
    refine TE_go ?_
    refine TC_ret ?_
    refine tsr ?_
    obtain rfl := sinj h0
    exact TE_ret env rfl ⟨trivial, trivial⟩ trivial
  · replace h0 := bif_f h0 hb
    refine TC_skip ?_
    refine TE_go ?_
    refine TC_seq ?_
    obtain ⟨z1, h1, h0⟩ := bnd h0
    refine TC_cut (α := Int × Int × Int × Int × Int × Int × Int × Int × Int × Int × Int × Int × Int × Int × Int) (fun s => z1 = .inl s) (fun s => [(2, .p 12000 0), (4, .p 12001 0)]) (fun s => [(12000, some (.cells [.int .i64 0, .int .i64 0, .int .i64 0, .int .i64 0, .int .i64 0, .int .i64 0, .int .i64 0, .int .i64 0, .int .i64 0, .int .i64 0, .int .i64 0, .int .i64 0, .int .i64 0, .int .i64 0, .int .i64 0])), (12001, some (.cells [.int .i64 s.1, .int .i64 s.2.1, .int .i64 s.2.2.1, .int .i64 s.2.2.2.1, .int .i64 s.2.2.2.2.1, .int .i64 s.2.2.2.2.2.1, .int .i64 s.2.2.2.2.2.2.1, .int .i64 s.2.2.2.2.2.2.2.1, .int .i64 s.2.2.2.2.2.2.2.2.1, .int .i64 s.2.2.2.2.2.2.2.2.2.1, .int .i64 s.2.2.2.2.2.2.2.2.2.2.1, .int .i64 s.2.2.2.2.2.2.2.2.2.2.2.1, .int .i64 s.2.2.2.2.2.2.2.2.2.2.2.2.1, .int .i64 s.2.2.2.2.2.2.2.2.2.2.2.2.2.1, .int .i64 s.2.2.2.2.2.2.2.2.2.2.2.2.2.2]))]) ?_ ?_
    · refine TC_blk ?_
      refine TC_loop (α := (List (Int)) × Int × Int × Int × Int × Int × Int × Int × Int × Int × Int × Int × Int × Int × Int × Int × Bool × Bool × Bool) (fun n s => caps_Parse.l0 K n s.1 s.2.1 s.2.2.1 s.2.2.2.1 s.2.2.2.2.1 s.2.2.2.2.2.1 s.2.2.2.2.2.2.1 s.2.2.2.2.2.2.2.1 s.2.2.2.2.2.2.2.2.1 s.2.2.2.2.2.2.2.2.2.1 s.2.2.2.2.2.2.2.2.2.2.1 s.2.2.2.2.2.2.2.2.2.2.2.1 s.2.2.2.2.2.2.2.2.2.2.2.2.1 s.2.2.2.2.2.2.2.2.2.2.2.2.2.1 s.2.2.2.2.2.2.2.2.2.2.2.2.2.2.1 s.2.2.2.2.2.2.2.2.2.2.2.2.2.2.2.1 s.2.2.2.2.2.2.2.2.2.2.2.2.2.2.2.2.1 s.2.2.2.2.2.2.2.2.2.2.2.2.2.2.2.2.2.1 s.2.2.2.2.2.2.2.2.2.2.2.2.2.2.2.2.2.2 = some z1) (fun s => [(0, .im (.slice (.int .u8)) s.1), (2, .p 12500 0), (4, .p 12501 0), (5, .p 12502 0)]) (fun s => [(12500, some (.cells [.int .i64 0, .int .i64 0, .int .i64 0, .int .i64 0, .int .i64 0, .int .i64 0, .int .i64 0, .int .i64 0, .int .i64 0, .int .i64 0, .int .i64 0, .int .i64 0, .int .i64 0, .int .i64 0, .int .i64 0])), (12501, some (.cells [.int .i64 s.2.1, .int .i64 s.2.2.1, .int .i64 s.2.2.2.1, .int .i64 s.2.2.2.2.1, .int .i64 s.2.2.2.2.2.1, .int .i64 s.2.2.2.2.2.2.1, .int .i64 s.2.2.2.2.2.2.2.1, .int .i64 s.2.2.2.2.2.2.2.2.1, .int .i64 s.2.2.2.2.2.2.2.2.2.1, .int .i64 s.2.2.2.2.2.2.2.2.2.2.1, .int .i64 s.2.2.2.2.2.2.2.2.2.2.2.1, .int .i64 s.2.2.2.2.2.2.2.2.2.2.2.2.1, .int .i64 s.2.2.2.2.2.2.2.2.2.2.2.2.2.1, .int .i64 s.2.2.2.2.2.2.2.2.2.2.2.2.2.2.1, .int .i64 s.2.2.2.2.2.2.2.2.2.2.2.2.2.2.2.1])), (12502, some (.cells [.bool false, .bool s.2.2.2.2.2.2.2.2.2.2.2.2.2.2.2.2.1, .bool s.2.2.2.2.2.2.2.2.2.2.2.2.2.2.2.2.2.1, .bool s.2.2.2.2.2.2.2.2.2.2.2.2.2.2.2.2.2.2]))]) K ?_ ?_
      · exact SP_ren [(12500, 1002), (12501, 1004), (12502, 1005)] (_, _, _, _, _, _, _, _, _, _, _, _, _, _, _, _, _, _, _) h1 ⟨rfl, rfl, rfl, rfl, trivial⟩ ⟨rfl, rfl, rfl, trivial⟩ rfl
      rintro n ⟨x185, x186, x187, x188, x189, x190, x191, x192, x193, x194, x195, x196, x197, x198, x199, x200, x201, x202, x203⟩ h1
      rcases n with _ | n
      · exact (nsome h1).elim
      replace h1 : caps_Parse.r0 K (caps_Parse.l0 K n) x185 x186 x187 x188 x189 x190 x191 x192 x193 x194 x195 x196 x197 x198 x199 x200 x201 x202 x203 = some z1 := h1
      refine TC_seq ?_
      refine TC_seq ?_
      refine TC_reg ?_
      refine TL_ev env 3 rfl ⟨trivial, ⟨⟨trivial, trivial⟩, ⟨⟨trivial, ⟨trivial, trivial⟩⟩, trivial⟩⟩⟩ ?_
      refine TL_end ?_
      refine TE_go ?_
      refine TC_cond rfl (fun hb => ?_) (fun hb => ?_)
      · replace h1 := bif_t h1 hb
        refine TC_skip ?_
        refine TE_go ?_
        refine TC_blk ?_
        refine TC_seq ?_
        refine TC_seq ?_
        refine TC_reg ?_
        obtain ⟨g, h1⟩ := gd_t h1
        refine TL_ev env 13 rfl ⟨trivial, ⟨⟨trivial, trivial⟩, ⟨⟨trivial, ⟨trivial, trivial⟩⟩, ⟨trivial, ⟨fun eg => trivial, ⟨fun eg => ⟨fun e => e, ⟨trivial, ⟨(by decide), (g eg)⟩⟩⟩, ⟨fun eg => ⟨fun e => e, trivial⟩, ⟨fun eg => fun e => e, ⟨fun eg => trivial, ⟨fun eg => ⟨fun e => e, trivial⟩, ⟨fun eg => ⟨fun e => e, ⟨trivial, trivial⟩⟩, ⟨fun eg => ⟨fun e => e, ⟨fun e => e, trivial⟩⟩, ⟨⟨trivial, ⟨trivial, fun e => e⟩⟩, trivial⟩⟩⟩⟩⟩⟩⟩⟩⟩⟩⟩⟩⟩ ?_
        refine TL_end ?_
        refine TE_go ?_
        refine TC_cond rfl (fun hb => ?_) (fun hb => ?_)
        · replace h1 := bif_t h1 hb
          refine TC_seq ?_
          refine TC_reg ?_
          refine TL_ev env 3 rfl ⟨trivial, ⟨⟨trivial, trivial⟩, ⟨trivial, trivial⟩⟩⟩ ?_
          refine TL_end ?_
          refine TE_go ?_
          refine TC_ret ?_
          refine tsr ?_
          refine tbr ?_
          refine tsr ?_
          refine tbr ?_
          refine tsr ?_
          refine tsr ?_
          obtain rfl := sinj h1
          obtain rfl := sinj h0
          exact TE_ret env rfl ⟨trivial, trivial⟩ trivial
        · replace h1 := bif_f h1 hb
          refine TC_skip ?_
          refine TE_go ?_
          refine TC_seq ?_
          refine TC_renw (A' := [(0, .im (.slice (.int .u8)) _), (2, .p 12500 0), (4, .p 12501 0), (5, .p 12502 0)]) (L' := [(12500, some (.cells [.int .i64 0, .int .i64 0, .int .i64 0, .int .i64 0, .int .i64 0, .int .i64 0, .int .i64 0, .int .i64 0, .int .i64 0, .int .i64 0, .int .i64 0, .int .i64 0, .int .i64 0, .int .i64 0, .int .i64 0])), (12501, some (.cells [.int .i64 _, .int .i64 _, .int .i64 _, .int .i64 _, .int .i64 _, .int .i64 _, .int .i64 _, .int .i64 _, .int .i64 _, .int .i64 _, .int .i64 _, .int .i64 _, .int .i64 _, .int .i64 _, .int .i64 _])), (12502, some (.cells [.bool false, .bool _, .bool _, .bool _]))]) [] ⟨rfl, rfl, rfl, rfl, trivial⟩ ⟨rfl, rfl, rfl, trivial⟩ rfl ?_
          refine TC_drawR ⟨_, fun i => ([[], [0], [1, 0], [2, 1, 0], [], [], [5], [6, 5], [7, 6, 5], [8, 7, 6, 5], [9, 8, 7, 6, 5, 4], [3, 2, 1, 0], [11, 10, 9, 8, 7, 6, 5, 4, 3, 2, 1, 0]] : List (List Nat)).getD i [], fun i => ([[], [], [], [], [], [], [], [], [], [], [], [], []] : List (List Nat)).getD i [], fun i => ([[], [], [], [], [], [], [], [], [], [], [], [], []] : List (List Nat)).getD i []⟩ (fun i => ([[], [], [], [], [], [], [], [], [], [], [], [], []] : List (List Nat)).getD i []) (by kernel_rfl) (by kernel_rfl) ?_
          refine AJR_ev env 1 rfl (Nat.le_of_ble_eq_true rfl) rfl trivial ?_
          obtain ⟨g, h1⟩ := gd_t h1
          refine AJR_ev env 2 rfl (Nat.le_of_ble_eq_true rfl) rfl ⟨trivial, ⟨trivial, ⟨(by decide), g⟩⟩⟩ ?_
          refine AJR_ev env 3 rfl (Nat.le_of_ble_eq_true rfl) rfl ⟨trivial, trivial⟩ ?_
          refine AJR_ev env 4 rfl (Nat.le_of_ble_eq_true rfl) rfl trivial ?_
          refine AJR_ev env 5 rfl (Nat.le_of_ble_eq_true rfl) rfl trivial ?_
          refine AJR_ev env 6 rfl (Nat.le_of_ble_eq_true rfl) rfl trivial ?_
          obtain ⟨g, h1⟩ := gd_t h1
          refine AJR_ev env 7 rfl (Nat.le_of_ble_eq_true rfl) rfl ⟨trivial, ⟨trivial, ⟨(by decide), g⟩⟩⟩ ?_
          refine AJR_ev env 8 rfl (Nat.le_of_ble_eq_true rfl) rfl ⟨trivial, trivial⟩ ?_
          refine AJR_ev env 9 rfl (Nat.le_of_ble_eq_true rfl) rfl trivial ?_
          refine AJR_ev env 10 rfl (Nat.le_of_ble_eq_true rfl) rfl ⟨trivial, ⟨trivial, trivial⟩⟩ ?_
          obtain ⟨g, h1⟩ := gd_t h1
          refine AJR_ev env 11 rfl (Nat.le_of_ble_eq_true rfl) rfl ⟨trivial, ⟨trivial, ⟨trivial, ⟨(by decide), ⟨g.1, g.2⟩⟩⟩⟩⟩ ?_
          refine AJR_ev env 12 rfl (Nat.le_of_ble_eq_true rfl) rfl trivial ?_
          refine AJR_ev env 13 rfl (Nat.le_of_ble_eq_true rfl) rfl trivial ?_
          refine AJR_end rfl rfl rfl ?_
          refine TE_go ?_
          refine TC_seq ?_
          refine TC_reg ?_
          obtain ⟨g, h1⟩ := gd_t h1
          refine TL_ev env 6 rfl ⟨trivial, ⟨trivial, ⟨⟨trivial, trivial⟩, ⟨⟨trivial, ⟨trivial, trivial⟩⟩, ⟨⟨trivial, ⟨trivial, ⟨trivial, ⟨g.1, ⟨g.2.1, g.2.2⟩⟩⟩⟩⟩, ⟨trivial, trivial⟩⟩⟩⟩⟩⟩ ?_
          refine TL_end ?_
          refine TE_go ?_
          refine TC_seq ?_
          refine TC_reg ?_
          refine TL_ev env 1 rfl ⟨trivial, trivial⟩ ?_
          refine nums h1 (fun hx h1 => TL_num 35 1 hx rfl ( TL_num 6 1 hx rfl ( TL_num 48 1 hx rfl ?_))) (fun h1 => ?_)
          · obtain ⟨⟨⟩, hr, h1⟩ := bnd h1
            refine TL_callB [(0, 12501), (1000, 500490)] (caps_Caps_fields_2.ok0 hr) caps_Caps_fields_2.fnb rfl ⟨trivial, ⟨trivial, ⟨trivial, trivial⟩⟩⟩ rfl ⟨.inr rfl, trivial⟩ rfl ?_
            refine TL_ev env 1 rfl ⟨trivial, trivial⟩ ?_
            refine TL_end ?_
            refine TE_go ?_
            refine TC_seq ?_
            refine TC_seq ?_
            refine TC_reg ?_
            refine TL_ev env 2 rfl ⟨trivial, ⟨⟨trivial, ⟨trivial, trivial⟩⟩, trivial⟩⟩ ?_
            refine TL_end ?_
            refine TE_go ?_
            refine TC_cond rfl (fun hb => ?_) (fun hb => ?_)
            · first | exact (ftf hb).elim | exact (tff hb).elim | exact absurd hb (by decide)
            · refine TC_skip ?_
              refine TE_go ?_
              refine TC_seq ?_
              refine TC_seq ?_
              refine TC_reg ?_
              refine TL_ev env 10 rfl ⟨trivial, ⟨⟨trivial, ⟨trivial, ⟨(by decide), (by decide)⟩⟩⟩, ⟨⟨trivial, trivial⟩, ⟨trivial, ⟨fun eg => trivial, ⟨fun eg => ⟨fun e => e, trivial⟩, ⟨fun eg => trivial, ⟨fun eg => ⟨fun e => e, trivial⟩, ⟨fun eg => ⟨fun e => e, ⟨fun e => e, trivial⟩⟩, ⟨⟨trivial, ⟨trivial, fun e => e⟩⟩, trivial⟩⟩⟩⟩⟩⟩⟩⟩⟩⟩ ?_
              refine TL_end ?_
              refine TE_go ?_
              refine TC_cond rfl (fun hb => ?_) (fun hb => ?_)
              · replace h1 := bif_t h1 hb
                refine TC_seq ?_
                refine TC_reg ?_
                refine TL_ev env 3 rfl ⟨trivial, ⟨⟨trivial, trivial⟩, ⟨trivial, trivial⟩⟩⟩ ?_
                refine TL_end ?_
                refine TE_go ?_
                refine TC_ret ?_
                refine tsr ?_
                refine tbr ?_
                refine tsr ?_
                refine tbr ?_
                refine tsr ?_
                refine tsr ?_
                obtain rfl := sinj h1
                obtain rfl := sinj h0
                exact TE_ret env rfl ⟨trivial, trivial⟩ trivial
              · replace h1 := bif_f h1 hb
                refine TC_skip ?_
                refine TE_go ?_
                refine TC_seq ?_
                refine TC_reg ?_
                refine TL_ev env 3 rfl ⟨trivial, ⟨⟨trivial, ⟨trivial, ⟨(by decide), (by decide)⟩⟩⟩, ⟨⟨trivial, trivial⟩, trivial⟩⟩⟩ ?_
                refine TL_end ?_
                refine TE_go ?_
                refine TC_seq ?_
                refine TC_seq ?_
                refine TC_reg ?_
                refine TL_ev env 3 rfl ⟨trivial, ⟨⟨trivial, trivial⟩, ⟨trivial, trivial⟩⟩⟩ ?_
                refine TL_end ?_
                refine TE_go ?_
                obtain ⟨z2, h2, h1⟩ := bnd h1
                refine TC_cut (α := Int × Int × Int × Int × Int × Int × Int × Int) (fun s => z2 = s) (fun s => [(0, .im (.slice (.int .u8)) ((x185.take (Int.toNat (x185.length : Int))).drop (Int.toNat (kwrap .i64 (2 + (((x185.take (Int.toNat (kwrap .i64 (2 + (kwrap .i64 (Kd.nth (.int .u8) x185 1)))))).drop (Int.toNat 2)).length : Int)))))), (2, .p 13000 0), (4, .p 13001 0), (5, .p 13002 0), (6, .int .i64 1)]) (fun s => [(13000, some (.cells [.int .i64 0, .int .i64 0, .int .i64 0, .int .i64 0, .int .i64 0, .int .i64 0, .int .i64 0, .int .i64 0, .int .i64 0, .int .i64 0, .int .i64 0, .int .i64 0, .int .i64 0, .int .i64 0, .int .i64 0])), (13001, some (.cells [.int .i64 s.1, .int .i64 s.2.1, .int .i64 s.2.2.1, .int .i64 s.2.2.2.1, .int .i64 s.2.2.2.2.1, .int .i64 s.2.2.2.2.2.1, .int .i64 s.2.2.2.2.2.2.1, .int .i64 s.2.2.2.2.2.2.2, .int .i64 x194, .int .i64 x195, .int .i64 x196, .int .i64 x197, .int .i64 x198, .int .i64 x199, .int .i64 x200])), (13002, some (.cells [.bool false, .bool true, .bool x202, .bool x203]))]) ?_ ?_
                · refine TC_blk ?_
                  refine TC_loopU ?_
                  refine TE_lb ?_
                  refine TC_seq ?_
                  refine TC_reg ?_
                  refine TL_ev env 1 rfl ⟨⟨trivial, ⟨trivial, trivial⟩⟩, trivial⟩ ?_
                  refine TL_end ?_
                  refine TE_go ?_
                  refine TC_seq ?_
                  refine TC_cond rfl (fun hb => ?_) (fun hb => ?_)
                  · refine TC_skip ?_
                    refine TE_go ?_
                    refine TC_seq ?_
                    refine TC_blk ?_
                    refine TC_seq ?_
                    refine TC_reg ?_
                    refine TL_ev env 5 rfl ⟨trivial, ⟨⟨trivial, ⟨trivial, ⟨(by decide), (by decide)⟩⟩⟩, ⟨⟨trivial, trivial⟩, ⟨trivial, ⟨trivial, trivial⟩⟩⟩⟩⟩ ?_
                    refine TL_end ?_
                    refine TE_go ?_
                    refine TC_reg ?_
                    obtain ⟨g, h2⟩ := gd_t h2
                    refine TL_ev env 8 rfl ⟨trivial, ⟨trivial, ⟨trivial, ⟨⟨trivial, ⟨trivial, ⟨(by decide), g⟩⟩⟩, ⟨⟨trivial, trivial⟩, ⟨trivial, ⟨trivial, ⟨⟨trivial, trivial⟩, trivial⟩⟩⟩⟩⟩⟩⟩⟩ ?_
                    refine TL_end ?_
                    refine tbn ?_
                    refine TE_go ?_
                    refine TC_reg ?_
                    refine TL_ev env 2 rfl ⟨⟨trivial, ⟨trivial, trivial⟩⟩, ⟨trivial, trivial⟩⟩ ?_
                    refine TL_end ?_
                    refine tsn ?_
                    refine TE_renw (A' := [(0, .im (.slice (.int .u8)) _), (2, .p 1099000 0), (4, .p 1099001 0), (5, .p 1099002 0), (6, .int .i64 1), (7, .im (.slice (.int .u8)) _), (65, .hd 1099003 8), (66, .int .i64 8), (67, .int .i64 1)]) (L' := [(1099000, some (.cells [.int .i64 0, .int .i64 0, .int .i64 0, .int .i64 0, .int .i64 0, .int .i64 0, .int .i64 0, .int .i64 0, .int .i64 0, .int .i64 0, .int .i64 0, .int .i64 0, .int .i64 0, .int .i64 0, .int .i64 0])), (1099001, some (.cells [.int .i64 _, .int .i64 _, .int .i64 _, .int .i64 _, .int .i64 _, .int .i64 _, .int .i64 _, .int .i64 _, .int .i64 _, .int .i64 _, .int .i64 _, .int .i64 _, .int .i64 _, .int .i64 _, .int .i64 _])), (1099002, some (.cells [.bool false, .bool true, .bool _, .bool _])), (1099003, some (.cells [.p 1099001 0, .p 1099001 1, .p 1099001 2, .p 1099001 3, .p 1099001 4, .p 1099001 5, .p 1099001 6, .p 1099001 7]))]) [(1099000, 12500), (1099001, 12501), (1099002, 12502), (1099003, 500490)] ⟨rfl, rfl, rfl, rfl, rfl, rfl, rfl, rfl, rfl, trivial⟩ ⟨rfl, rfl, rfl, rfl, trivial⟩ rfl ?_
                    refine TE_lb ?_
                    refine TC_seq ?_
                    refine TC_reg ?_
                    refine TL_ev env 1 rfl ⟨⟨trivial, ⟨trivial, trivial⟩⟩, trivial⟩ ?_
                    refine TL_end ?_
                    refine TE_go ?_
                    refine TC_seq ?_
                    refine TC_cond rfl (fun hb => ?_) (fun hb => ?_)
                    · refine TC_skip ?_
                      refine TE_go ?_
                      refine TC_seq ?_
                      refine TC_blk ?_
                      refine TC_seq ?_
                      refine TC_reg ?_
                      refine TL_ev env 5 rfl ⟨trivial, ⟨⟨trivial, ⟨trivial, ⟨(by decide), (by decide)⟩⟩⟩, ⟨⟨trivial, trivial⟩, ⟨trivial, ⟨trivial, trivial⟩⟩⟩⟩⟩ ?_
                      refine TL_end ?_
                      refine TE_go ?_
                      refine TC_reg ?_
                      obtain ⟨g, h2⟩ := gd_t h2
                      refine TL_ev env 8 rfl ⟨trivial, ⟨trivial, ⟨trivial, ⟨⟨trivial, ⟨trivial, ⟨(by decide), g⟩⟩⟩, ⟨⟨trivial, trivial⟩, ⟨trivial, ⟨trivial, ⟨⟨trivial, trivial⟩, trivial⟩⟩⟩⟩⟩⟩⟩⟩ ?_
                      refine TL_end ?_
                      refine tbn ?_
                      refine TE_go ?_
                      refine TC_reg ?_
                      refine TL_ev env 2 rfl ⟨⟨trivial, ⟨trivial, trivial⟩⟩, ⟨trivial, trivial⟩⟩ ?_
                      refine TL_end ?_
                      refine tsn ?_
                      refine TE_renw (A' := [(0, .im (.slice (.int .u8)) _), (2, .p 1100000 0), (4, .p 1100001 0), (5, .p 1100002 0), (6, .int .i64 1), (7, .im (.slice (.int .u8)) _), (65, .hd 1100003 8), (66, .int .i64 8), (67, .int .i64 2)]) (L' := [(1100000, some (.cells [.int .i64 0, .int .i64 0, .int .i64 0, .int .i64 0, .int .i64 0, .int .i64 0, .int .i64 0, .int .i64 0, .int .i64 0, .int .i64 0, .int .i64 0, .int .i64 0, .int .i64 0, .int .i64 0, .int .i64 0])), (1100001, some (.cells [.int .i64 _, .int .i64 _, .int .i64 _, .int .i64 _, .int .i64 _, .int .i64 _, .int .i64 _, .int .i64 _, .int .i64 _, .int .i64 _, .int .i64 _, .int .i64 _, .int .i64 _, .int .i64 _, .int .i64 _])), (1100002, some (.cells [.bool false, .bool true, .bool _, .bool _])), (1100003, some (.cells [.p 1100001 0, .p 1100001 1, .p 1100001 2, .p 1100001 3, .p 1100001 4, .p 1100001 5, .p 1100001 6, .p 1100001 7]))]) [(1100000, 1099000), (1100001, 1099001), (1100002, 1099002), (1100003, 1099003)] ⟨rfl, rfl, rfl, rfl, rfl, rfl, rfl, rfl, rfl, trivial⟩ ⟨rfl, rfl, rfl, rfl, trivial⟩ rfl ?_
                      refine TE_lb ?_
                      refine TC_seq ?_
                      refine TC_reg ?_
                      refine TL_ev env 1 rfl ⟨⟨trivial, ⟨trivial, trivial⟩⟩, trivial⟩ ?_
                      refine TL_end ?_
                      refine TE_go ?_
                      refine TC_seq ?_
                      refine TC_cond rfl (fun hb => ?_) (fun hb => ?_)
                      · refine TC_skip ?_
                        refine TE_go ?_
                        refine TC_seq ?_
                        refine TC_blk ?_
                        refine TC_seq ?_
                        refine TC_reg ?_
                        refine TL_ev env 5 rfl ⟨trivial, ⟨⟨trivial, ⟨trivial, ⟨(by decide), (by decide)⟩⟩⟩, ⟨⟨trivial, trivial⟩, ⟨trivial, ⟨trivial, trivial⟩⟩⟩⟩⟩ ?_
                        refine TL_end ?_
                        refine TE_go ?_
                        refine TC_reg ?_
                        obtain ⟨g, h2⟩ := gd_t h2
                        refine TL_ev env 8 rfl ⟨trivial, ⟨trivial, ⟨trivial, ⟨⟨trivial, ⟨trivial, ⟨(by decide), g⟩⟩⟩, ⟨⟨trivial, trivial⟩, ⟨trivial, ⟨trivial, ⟨⟨trivial, trivial⟩, trivial⟩⟩⟩⟩⟩⟩⟩⟩ ?_
                        refine TL_end ?_
                        refine tbn ?_
                        refine TE_go ?_
                        refine TC_reg ?_
                        refine TL_ev env 2 rfl ⟨⟨trivial, ⟨trivial, trivial⟩⟩, ⟨trivial, trivial⟩⟩ ?_
                        refine TL_end ?_
                        refine tsn ?_
                        refine TE_renw (A' := [(0, .im (.slice (.int .u8)) _), (2, .p 1101000 0), (4, .p 1101001 0), (5, .p 1101002 0), (6, .int .i64 1), (7, .im (.slice (.int .u8)) _), (65, .hd 1101003 8), (66, .int .i64 8), (67, .int .i64 3)]) (L' := [(1101000, some (.cells [.int .i64 0, .int .i64 0, .int .i64 0, .int .i64 0, .int .i64 0, .int .i64 0, .int .i64 0, .int .i64 0, .int .i64 0, .int .i64 0, .int .i64 0, .int .i64 0, .int .i64 0, .int .i64 0, .int .i64 0])), (1101001, some (.cells [.int .i64 _, .int .i64 _, .int .i64 _, .int .i64 _, .int .i64 _, .int .i64 _, .int .i64 _, .int .i64 _, .int .i64 _, .int .i64 _, .int .i64 _, .int .i64 _, .int .i64 _, .int .i64 _, .int .i64 _])), (1101002, some (.cells [.bool false, .bool true, .bool _, .bool _])), (1101003, some (.cells [.p 1101001 0, .p 1101001 1, .p 1101001 2, .p 1101001 3, .p 1101001 4, .p 1101001 5, .p 1101001 6, .p 1101001 7]))]) [(1101000, 1100000), (1101001, 1100001), (1101002, 1100002), (1101003, 1100003)] ⟨rfl, rfl, rfl, rfl, rfl, rfl, rfl, rfl, rfl, trivial⟩ ⟨rfl, rfl, rfl, rfl, trivial⟩ rfl ?_
                        refine TE_lb ?_
                        refine TC_seq ?_
                        refine TC_reg ?_
                        refine TL_ev env 1 rfl ⟨⟨trivial, ⟨trivial, trivial⟩⟩, trivial⟩ ?_
                        refine TL_end ?_
                        refine TE_go ?_
                        refine TC_seq ?_
                        refine TC_cond rfl (fun hb => ?_) (fun hb => ?_)
                        · refine TC_skip ?_
                          refine TE_go ?_
                          refine TC_seq ?_
                          refine TC_blk ?_
                          refine TC_seq ?_
                          refine TC_reg ?_
                          refine TL_ev env 5 rfl ⟨trivial, ⟨⟨trivial, ⟨trivial, ⟨(by decide), (by decide)⟩⟩⟩, ⟨⟨trivial, trivial⟩, ⟨trivial, ⟨trivial, trivial⟩⟩⟩⟩⟩ ?_
                          refine TL_end ?_
                          refine TE_go ?_
                          refine TC_reg ?_
                          obtain ⟨g, h2⟩ := gd_t h2
                          refine TL_ev env 8 rfl ⟨trivial, ⟨trivial, ⟨trivial, ⟨⟨trivial, ⟨trivial, ⟨(by decide), g⟩⟩⟩, ⟨⟨trivial, trivial⟩, ⟨trivial, ⟨trivial, ⟨⟨trivial, trivial⟩, trivial⟩⟩⟩⟩⟩⟩⟩⟩ ?_
                          refine TL_end ?_
                          refine tbn ?_
                          refine TE_go ?_
                          refine TC_reg ?_
                          refine TL_ev env 2 rfl ⟨⟨trivial, ⟨trivial, trivial⟩⟩, ⟨trivial, trivial⟩⟩ ?_
                          refine TL_end ?_
                          refine tsn ?_
                          refine TE_renw (A' := [(0, .im (.slice (.int .u8)) _), (2, .p 1102000 0), (4, .p 1102001 0), (5, .p 1102002 0), (6, .int .i64 1), (7, .im (.slice (.int .u8)) _), (65, .hd 1102003 8), (66, .int .i64 8), (67, .int .i64 4)]) (L' := [(1102000, some (.cells [.int .i64 0, .int .i64 0, .int .i64 0, .int .i64 0, .int .i64 0, .int .i64 0, .int .i64 0, .int .i64 0, .int .i64 0, .int .i64 0, .int .i64 0, .int .i64 0, .int .i64 0, .int .i64 0, .int .i64 0])), (1102001, some (.cells [.int .i64 _, .int .i64 _, .int .i64 _, .int .i64 _, .int .i64 _, .int .i64 _, .int .i64 _, .int .i64 _, .int .i64 _, .int .i64 _, .int .i64 _, .int .i64 _, .int .i64 _, .int .i64 _, .int .i64 _])), (1102002, some (.cells [.bool false, .bool true, .bool _, .bool _])), (1102003, some (.cells [.p 1102001 0, .p 1102001 1, .p 1102001 2, .p 1102001 3, .p 1102001 4, .p 1102001 5, .p 1102001 6, .p 1102001 7]))]) [(1102000, 1101000), (1102001, 1101001), (1102002, 1101002), (1102003, 1101003)] ⟨rfl, rfl, rfl, rfl, rfl, rfl, rfl, rfl, rfl, trivial⟩ ⟨rfl, rfl, rfl, rfl, trivial⟩ rfl ?_
                          refine TE_lb ?_
                          refine TC_seq ?_
                          refine TC_reg ?_
                          refine TL_ev env 1 rfl ⟨⟨trivial, ⟨trivial, trivial⟩⟩, trivial⟩ ?_
                          refine TL_end ?_
                          refine TE_go ?_
                          refine TC_seq ?_
                          refine TC_cond rfl (fun hb => ?_) (fun hb => ?_)
                          · refine TC_skip ?_
                            refine TE_go ?_
                            refine TC_seq ?_
                            refine TC_blk ?_
                            refine TC_seq ?_
                            refine TC_reg ?_
                            refine TL_ev env 5 rfl ⟨trivial, ⟨⟨trivial, ⟨trivial, ⟨(by decide), (by decide)⟩⟩⟩, ⟨⟨trivial, trivial⟩, ⟨trivial, ⟨trivial, trivial⟩⟩⟩⟩⟩ ?_
                            refine TL_end ?_
                            refine TE_go ?_
                            refine TC_reg ?_
                            obtain ⟨g, h2⟩ := gd_t h2
                            refine TL_ev env 8 rfl ⟨trivial, ⟨trivial, ⟨trivial, ⟨⟨trivial, ⟨trivial, ⟨(by decide), g⟩⟩⟩, ⟨⟨trivial, trivial⟩, ⟨trivial, ⟨trivial, ⟨⟨trivial, trivial⟩, trivial⟩⟩⟩⟩⟩⟩⟩⟩ ?_
                            refine TL_end ?_
                            refine tbn ?_
                            refine TE_go ?_
                            refine TC_reg ?_
                            refine TL_ev env 2 rfl ⟨⟨trivial, ⟨trivial, trivial⟩⟩, ⟨trivial, trivial⟩⟩ ?_
                            refine TL_end ?_
                            refine tsn ?_
                            refine TE_renw (A' := [(0, .im (.slice (.int .u8)) _), (2, .p 1103000 0), (4, .p 1103001 0), (5, .p 1103002 0), (6, .int .i64 1), (7, .im (.slice (.int .u8)) _), (65, .hd 1103003 8), (66, .int .i64 8), (67, .int .i64 5)]) (L' := [(1103000, some (.cells [.int .i64 0, .int .i64 0, .int .i64 0, .int .i64 0, .int .i64 0, .int .i64 0, .int .i64 0, .int .i64 0, .int .i64 0, .int .i64 0, .int .i64 0, .int .i64 0, .int .i64 0, .int .i64 0, .int .i64 0])), (1103001, some (.cells [.int .i64 _, .int .i64 _, .int .i64 _, .int .i64 _, .int .i64 _, .int .i64 _, .int .i64 _, .int .i64 _, .int .i64 _, .int .i64 _, .int .i64 _, .int .i64 _, .int .i64 _, .int .i64 _, .int .i64 _])), (1103002, some (.cells [.bool false, .bool true, .bool _, .bool _])), (1103003, some (.cells [.p 1103001 0, .p 1103001 1, .p 1103001 2, .p 1103001 3, .p 1103001 4, .p 1103001 5, .p 1103001 6, .p 1103001 7]))]) [(1103000, 1102000), (1103001, 1102001), (1103002, 1102002), (1103003, 1102003)] ⟨rfl, rfl, rfl, rfl, rfl, rfl, rfl, rfl, rfl, trivial⟩ ⟨rfl, rfl, rfl, rfl, trivial⟩ rfl ?_
                            refine TE_lb ?_
                            refine TC_seq ?_
                            refine TC_reg ?_
                            refine TL_ev env 1 rfl ⟨⟨trivial, ⟨trivial, trivial⟩⟩, trivial⟩ ?_
                            refine TL_end ?_
                            refine TE_go ?_
                            refine TC_seq ?_
                            refine TC_cond rfl (fun hb => ?_) (fun hb => ?_)
                            · refine TC_skip ?_
                              refine TE_go ?_
                              refine TC_seq ?_
                              refine TC_blk ?_
                              refine TC_seq ?_
                              refine TC_reg ?_
                              refine TL_ev env 5 rfl ⟨trivial, ⟨⟨trivial, ⟨trivial, ⟨(by decide), (by decide)⟩⟩⟩, ⟨⟨trivial, trivial⟩, ⟨trivial, ⟨trivial, trivial⟩⟩⟩⟩⟩ ?_
                              refine TL_end ?_
                              refine TE_go ?_
                              refine TC_reg ?_
                              obtain ⟨g, h2⟩ := gd_t h2
                              refine TL_ev env 8 rfl ⟨trivial, ⟨trivial, ⟨trivial, ⟨⟨trivial, ⟨trivial, ⟨(by decide), g⟩⟩⟩, ⟨⟨trivial, trivial⟩, ⟨trivial, ⟨trivial, ⟨⟨trivial, trivial⟩, trivial⟩⟩⟩⟩⟩⟩⟩⟩ ?_
                              refine TL_end ?_
                              refine tbn ?_
                              refine TE_go ?_
                              refine TC_reg ?_
                              refine TL_ev env 2 rfl ⟨⟨trivial, ⟨trivial, trivial⟩⟩, ⟨trivial, trivial⟩⟩ ?_
                              refine TL_end ?_
                              refine tsn ?_
                              refine TE_renw (A' := [(0, .im (.slice (.int .u8)) _), (2, .p 1104000 0), (4, .p 1104001 0), (5, .p 1104002 0), (6, .int .i64 1), (7, .im (.slice (.int .u8)) _), (65, .hd 1104003 8), (66, .int .i64 8), (67, .int .i64 6)]) (L' := [(1104000, some (.cells [.int .i64 0, .int .i64 0, .int .i64 0, .int .i64 0, .int .i64 0, .int .i64 0, .int .i64 0, .int .i64 0, .int .i64 0, .int .i64 0, .int .i64 0, .int .i64 0, .int .i64 0, .int .i64 0, .int .i64 0])), (1104001, some (.cells [.int .i64 _, .int .i64 _, .int .i64 _, .int .i64 _, .int .i64 _, .int .i64 _, .int .i64 _, .int .i64 _, .int .i64 _, .int .i64 _, .int .i64 _, .int .i64 _, .int .i64 _, .int .i64 _, .int .i64 _])), (1104002, some (.cells [.bool false, .bool true, .bool _, .bool _])), (1104003, some (.cells [.p 1104001 0, .p 1104001 1, .p 1104001 2, .p 1104001 3, .p 1104001 4, .p 1104001 5, .p 1104001 6, .p 1104001 7]))]) [(1104000, 1103000), (1104001, 1103001), (1104002, 1103002), (1104003, 1103003)] ⟨rfl, rfl, rfl, rfl, rfl, rfl, rfl, rfl, rfl, trivial⟩ ⟨rfl, rfl, rfl, rfl, trivial⟩ rfl ?_
                              refine TE_lb ?_
                              refine TC_seq ?_
                              refine TC_reg ?_
                              refine TL_ev env 1 rfl ⟨⟨trivial, ⟨trivial, trivial⟩⟩, trivial⟩ ?_
                              refine TL_end ?_
                              refine TE_go ?_
                              refine TC_seq ?_
                              refine TC_cond rfl (fun hb => ?_) (fun hb => ?_)
                              · refine TC_skip ?_
                                refine TE_go ?_
                                refine TC_seq ?_
                                refine TC_blk ?_
                                refine TC_seq ?_
                                refine TC_reg ?_
                                refine TL_ev env 5 rfl ⟨trivial, ⟨⟨trivial, ⟨trivial, ⟨(by decide), (by decide)⟩⟩⟩, ⟨⟨trivial, trivial⟩, ⟨trivial, ⟨trivial, trivial⟩⟩⟩⟩⟩ ?_
                                refine TL_end ?_
                                refine TE_go ?_
                                refine TC_reg ?_
                                obtain ⟨g, h2⟩ := gd_t h2
                                refine TL_ev env 8 rfl ⟨trivial, ⟨trivial, ⟨trivial, ⟨⟨trivial, ⟨trivial, ⟨(by decide), g⟩⟩⟩, ⟨⟨trivial, trivial⟩, ⟨trivial, ⟨trivial, ⟨⟨trivial, trivial⟩, trivial⟩⟩⟩⟩⟩⟩⟩⟩ ?_
                                refine TL_end ?_
                                refine tbn ?_
                                refine TE_go ?_
                                refine TC_reg ?_
                                refine TL_ev env 2 rfl ⟨⟨trivial, ⟨trivial, trivial⟩⟩, ⟨trivial, trivial⟩⟩ ?_
                                refine TL_end ?_
                                refine tsn ?_
                                refine TE_renw (A' := [(0, .im (.slice (.int .u8)) _), (2, .p 1105000 0), (4, .p 1105001 0), (5, .p 1105002 0), (6, .int .i64 1), (7, .im (.slice (.int .u8)) _), (65, .hd 1105003 8), (66, .int .i64 8), (67, .int .i64 7)]) (L' := [(1105000, some (.cells [.int .i64 0, .int .i64 0, .int .i64 0, .int .i64 0, .int .i64 0, .int .i64 0, .int .i64 0, .int .i64 0, .int .i64 0, .int .i64 0, .int .i64 0, .int .i64 0, .int .i64 0, .int .i64 0, .int .i64 0])), (1105001, some (.cells [.int .i64 _, .int .i64 _, .int .i64 _, .int .i64 _, .int .i64 _, .int .i64 _, .int .i64 _, .int .i64 _, .int .i64 _, .int .i64 _, .int .i64 _, .int .i64 _, .int .i64 _, .int .i64 _, .int .i64 _])), (1105002, some (.cells [.bool false, .bool true, .bool _, .bool _])), (1105003, some (.cells [.p 1105001 0, .p 1105001 1, .p 1105001 2, .p 1105001 3, .p 1105001 4, .p 1105001 5, .p 1105001 6, .p 1105001 7]))]) [(1105000, 1104000), (1105001, 1104001), (1105002, 1104002), (1105003, 1104003)] ⟨rfl, rfl, rfl, rfl, rfl, rfl, rfl, rfl, rfl, trivial⟩ ⟨rfl, rfl, rfl, rfl, trivial⟩ rfl ?_
                                refine TE_lb ?_
                                refine TC_seq ?_
                                refine TC_reg ?_
                                refine TL_ev env 1 rfl ⟨⟨trivial, ⟨trivial, trivial⟩⟩, trivial⟩ ?_
                                refine TL_end ?_
                                refine TE_go ?_
                                refine TC_seq ?_
                                refine TC_cond rfl (fun hb => ?_) (fun hb => ?_)
                                · refine TC_skip ?_
                                  refine TE_go ?_
                                  refine TC_seq ?_
                                  refine TC_blk ?_
                                  refine TC_seq ?_
                                  refine TC_reg ?_
                                  refine TL_ev env 5 rfl ⟨trivial, ⟨⟨trivial, ⟨trivial, ⟨(by decide), (by decide)⟩⟩⟩, ⟨⟨trivial, trivial⟩, ⟨trivial, ⟨trivial, trivial⟩⟩⟩⟩⟩ ?_
                                  refine TL_end ?_
                                  refine TE_go ?_
                                  refine TC_reg ?_
                                  obtain ⟨g, h2⟩ := gd_t h2
                                  refine TL_ev env 8 rfl ⟨trivial, ⟨trivial, ⟨trivial, ⟨⟨trivial, ⟨trivial, ⟨(by decide), g⟩⟩⟩, ⟨⟨trivial, trivial⟩, ⟨trivial, ⟨trivial, ⟨⟨trivial, trivial⟩, trivial⟩⟩⟩⟩⟩⟩⟩⟩ ?_
                                  refine TL_end ?_
                                  refine tbn ?_
                                  refine TE_go ?_
                                  refine TC_reg ?_
                                  refine TL_ev env 2 rfl ⟨⟨trivial, ⟨trivial, trivial⟩⟩, ⟨trivial, trivial⟩⟩ ?_
                                  refine TL_end ?_
                                  refine tsn ?_
                                  refine TE_renw (A' := [(0, .im (.slice (.int .u8)) _), (2, .p 1106000 0), (4, .p 1106001 0), (5, .p 1106002 0), (6, .int .i64 1), (7, .im (.slice (.int .u8)) _), (65, .hd 1106003 8), (66, .int .i64 8), (67, .int .i64 8)]) (L' := [(1106000, some (.cells [.int .i64 0, .int .i64 0, .int .i64 0, .int .i64 0, .int .i64 0, .int .i64 0, .int .i64 0, .int .i64 0, .int .i64 0, .int .i64 0, .int .i64 0, .int .i64 0, .int .i64 0, .int .i64 0, .int .i64 0])), (1106001, some (.cells [.int .i64 _, .int .i64 _, .int .i64 _, .int .i64 _, .int .i64 _, .int .i64 _, .int .i64 _, .int .i64 _, .int .i64 _, .int .i64 _, .int .i64 _, .int .i64 _, .int .i64 _, .int .i64 _, .int .i64 _])), (1106002, some (.cells [.bool false, .bool true, .bool _, .bool _])), (1106003, some (.cells [.p 1106001 0, .p 1106001 1, .p 1106001 2, .p 1106001 3, .p 1106001 4, .p 1106001 5, .p 1106001 6, .p 1106001 7]))]) [(1106000, 1105000), (1106001, 1105001), (1106002, 1105002), (1106003, 1105003)] ⟨rfl, rfl, rfl, rfl, rfl, rfl, rfl, rfl, rfl, trivial⟩ ⟨rfl, rfl, rfl, rfl, trivial⟩ rfl ?_
                                  refine TE_lb ?_
                                  refine TC_seq ?_
                                  refine TC_reg ?_
                                  refine TL_ev env 1 rfl ⟨⟨trivial, ⟨trivial, trivial⟩⟩, trivial⟩ ?_
                                  refine TL_end ?_
                                  refine TE_go ?_
                                  refine TC_seq ?_
                                  refine TC_cond rfl (fun hb => ?_) (fun hb => ?_)
                                  · first | exact (ftf hb).elim | exact (tff hb).elim | exact absurd hb (by decide)
                                  · refine TC_exit ?_
                                    refine tsx ?_
                                    refine tsx ?_
                                    refine tbe ?_
                                    obtain rfl := sinj h2
                                    refine tsn ?_
                                    exact SP_ren [(13000, 1106000), (13001, 1106001), (13002, 1106002)] (_, _, _, _, _, _, _, _) rfl ⟨rfl, rfl, rfl, rfl, rfl, trivial⟩ ⟨rfl, rfl, rfl, trivial⟩ rfl
                                · first | exact (ftf hb).elim | exact (tff hb).elim | exact absurd hb (by decide)
                              · first | exact (ftf hb).elim | exact (tff hb).elim | exact absurd hb (by decide)
                            · first | exact (ftf hb).elim | exact (tff hb).elim | exact absurd hb (by decide)
                          · first | exact (ftf hb).elim | exact (tff hb).elim | exact absurd hb (by decide)
                        · first | exact (ftf hb).elim | exact (tff hb).elim | exact absurd hb (by decide)
                      · first | exact (ftf hb).elim | exact (tff hb).elim | exact absurd hb (by decide)
                    · first | exact (ftf hb).elim | exact (tff hb).elim | exact absurd hb (by decide)
                  · first | exact (ftf hb).elim | exact (tff hb).elim | exact absurd hb (by decide)
                · rintro ⟨x253, x254, x255, x256, x257, x258, x259, x260⟩ rfl
                  refine TE_go ?_
                  refine TC_seq ?_
                  refine TC_reg ?_
                  refine TL_ev env 3 rfl ⟨trivial, ⟨⟨trivial, ⟨trivial, trivial⟩⟩, ⟨trivial, trivial⟩⟩⟩ ?_
                  refine TL_gt rfl rfl rfl rfl ?_
                  refine TL_ev env 1 rfl ⟨trivial, trivial⟩ ?_
                  refine TL_gt rfl rfl rfl rfl ?_
                  refine TL_ev env 1 rfl ⟨⟨trivial, trivial⟩, trivial⟩ ?_
                  refine TL_gt rfl rfl rfl rfl ?_
                  refine TL_ev env 1 rfl ⟨trivial, trivial⟩ ?_
                  refine TL_gt rfl rfl rfl rfl ?_
                  refine TL_ev env 12 rfl ⟨⟨trivial, ⟨trivial, trivial⟩⟩, ⟨⟨trivial, ⟨trivial, trivial⟩⟩, ⟨trivial, ⟨fun eg => trivial, ⟨fun eg => ⟨fun e => e, ⟨trivial, trivial⟩⟩, ⟨fun eg => fun e => e, ⟨fun eg => trivial, ⟨fun eg => ⟨fun e => e, trivial⟩, ⟨fun eg => trivial, ⟨fun eg => ⟨fun e => e, ⟨fun e => e, trivial⟩⟩, ⟨fun eg => ⟨fun e => e, ⟨fun e => (ftf e).elim, trivial⟩⟩, ⟨⟨trivial, ⟨trivial, fun e => e⟩⟩, trivial⟩⟩⟩⟩⟩⟩⟩⟩⟩⟩⟩⟩ ?_
                  refine TL_end ?_
                  refine TE_go ?_
                  refine TC_cond rfl (fun hb => ?_) (fun hb => ?_)
                  · replace h1 := bif_t h1 hb
                    refine TC_seq ?_
                    refine TC_reg ?_
                    refine TL_ev env 3 rfl ⟨trivial, ⟨⟨trivial, trivial⟩, ⟨trivial, trivial⟩⟩⟩ ?_
                    refine TL_end ?_
                    refine TE_go ?_
                    refine TC_ret ?_
                    refine tbr ?_
                    refine tsr ?_
                    refine tbr ?_
                    refine tsr ?_
                    refine tsr ?_
                    obtain rfl := sinj h1
                    obtain rfl := sinj h0
                    exact TE_ret env rfl ⟨trivial, trivial⟩ trivial
                  · replace h1 := bif_f h1 hb
                    refine TC_skip ?_
                    refine tbn ?_
                    refine tsn ?_
                    exact TE_nextr [(12500, 13000), (12501, 13001), (12502, 13002)] n (Nat.lt_succ_self n) (_, _, _, _, _, _, _, _, _, _, _, _, _, _, _, _, _, _, _) h1 ⟨rfl, rfl, rfl, rfl, trivial⟩ ⟨rfl, rfl, rfl, trivial⟩ rfl
          · refine nums h1 (fun hx h1 => TL_num 35 2 hx rfl ( TL_num 6 2 hx rfl ( TL_num 48 2 hx rfl ?_))) (fun h1 => ?_)
            · obtain ⟨⟨⟩, hr, h1⟩ := bnd h1
              refine TL_callB [(0, 12501), (1000, 500490)] (caps_Caps_fields_3.ok0 hr) caps_Caps_fields_3.fnb rfl ⟨trivial, ⟨trivial, ⟨trivial, trivial⟩⟩⟩ rfl ⟨.inr rfl, trivial⟩ rfl ?_
              refine TL_ev env 1 rfl ⟨trivial, trivial⟩ ?_
              refine TL_end ?_
              refine TE_go ?_
              refine TC_seq ?_
              refine TC_seq ?_
              refine TC_reg ?_
              refine TL_ev env 2 rfl ⟨trivial, ⟨⟨trivial, ⟨trivial, trivial⟩⟩, trivial⟩⟩ ?_
              refine TL_end ?_
              refine TE_go ?_
              refine TC_cond rfl (fun hb => ?_) (fun hb => ?_)
              · first | exact (ftf hb).elim | exact (tff hb).elim | exact absurd hb (by decide)
              · refine TC_skip ?_
                refine TE_go ?_
                refine TC_seq ?_
                refine TC_seq ?_
                refine TC_reg ?_
                refine TL_ev env 10 rfl ⟨trivial, ⟨⟨trivial, ⟨trivial, ⟨(by decide), (by decide)⟩⟩⟩, ⟨⟨trivial, trivial⟩, ⟨trivial, ⟨fun eg => trivial, ⟨fun eg => ⟨fun e => e, trivial⟩, ⟨fun eg => trivial, ⟨fun eg => ⟨fun e => e, trivial⟩, ⟨fun eg => ⟨fun e => e, ⟨fun e => e, trivial⟩⟩, ⟨⟨trivial, ⟨trivial, fun e => e⟩⟩, trivial⟩⟩⟩⟩⟩⟩⟩⟩⟩⟩ ?_
                refine TL_end ?_
                refine TE_go ?_
                refine TC_cond rfl (fun hb => ?_) (fun hb => ?_)
                · replace h1 := bif_t h1 hb
                  refine TC_seq ?_
                  refine TC_reg ?_
                  refine TL_ev env 3 rfl ⟨trivial, ⟨⟨trivial, trivial⟩, ⟨trivial, trivial⟩⟩⟩ ?_
                  refine TL_end ?_
                  refine TE_go ?_
                  refine TC_ret ?_
                  refine tsr ?_
                  refine tbr ?_
                  refine tsr ?_
                  refine tbr ?_
                  refine tsr ?_
                  refine tsr ?_
                  obtain rfl := sinj h1
                  obtain rfl := sinj h0
                  exact TE_ret env rfl ⟨trivial, trivial⟩ trivial
                · replace h1 := bif_f h1 hb
                  refine TC_skip ?_
                  refine TE_go ?_
                  refine TC_seq ?_
                  refine TC_reg ?_
                  refine TL_ev env 3 rfl ⟨trivial, ⟨⟨trivial, ⟨trivial, ⟨(by decide), (by decide)⟩⟩⟩, ⟨⟨trivial, trivial⟩, trivial⟩⟩⟩ ?_
                  refine TL_end ?_
                  refine TE_go ?_
                  refine TC_seq ?_
                  refine TC_seq ?_
                  refine TC_reg ?_
                  refine TL_ev env 3 rfl ⟨trivial, ⟨⟨trivial, trivial⟩, ⟨trivial, trivial⟩⟩⟩ ?_
                  refine TL_end ?_
                  refine TE_go ?_
                  obtain ⟨z2, h2, h1⟩ := bnd h1
                  refine TC_cut (α := Int × Int × Int × Int × Int) (fun s => z2 = s) (fun s => [(0, .im (.slice (.int .u8)) ((x185.take (Int.toNat (x185.length : Int))).drop (Int.toNat (kwrap .i64 (2 + (((x185.take (Int.toNat (kwrap .i64 (2 + (kwrap .i64 (Kd.nth (.int .u8) x185 1)))))).drop (Int.toNat 2)).length : Int)))))), (2, .p 13100 0), (4, .p 13101 0), (5, .p 13102 0), (6, .int .i64 2)]) (fun s => [(13100, some (.cells [.int .i64 0, .int .i64 0, .int .i64 0, .int .i64 0, .int .i64 0, .int .i64 0, .int .i64 0, .int .i64 0, .int .i64 0, .int .i64 0, .int .i64 0, .int .i64 0, .int .i64 0, .int .i64 0, .int .i64 0])), (13101, some (.cells [.int .i64 x186, .int .i64 x187, .int .i64 x188, .int .i64 x189, .int .i64 x190, .int .i64 x191, .int .i64 x192, .int .i64 x193, .int .i64 s.1, .int .i64 s.2.1, .int .i64 s.2.2.1, .int .i64 s.2.2.2.1, .int .i64 s.2.2.2.2, .int .i64 x199, .int .i64 x200])), (13102, some (.cells [.bool false, .bool x201, .bool true, .bool x203]))]) ?_ ?_
                  · refine TC_blk ?_
                    refine TC_loopU ?_
                    refine TE_lb ?_
                    refine TC_seq ?_
                    refine TC_reg ?_
                    refine TL_ev env 1 rfl ⟨⟨trivial, ⟨trivial, trivial⟩⟩, trivial⟩ ?_
                    refine TL_end ?_
                    refine TE_go ?_
                    refine TC_seq ?_
                    refine TC_cond rfl (fun hb => ?_) (fun hb => ?_)
                    · refine TC_skip ?_
                      refine TE_go ?_
                      refine TC_seq ?_
                      refine TC_blk ?_
                      refine TC_seq ?_
                      refine TC_reg ?_
                      refine TL_ev env 5 rfl ⟨trivial, ⟨⟨trivial, ⟨trivial, ⟨(by decide), (by decide)⟩⟩⟩, ⟨⟨trivial, trivial⟩, ⟨trivial, ⟨trivial, trivial⟩⟩⟩⟩⟩ ?_
                      refine TL_end ?_
                      refine TE_go ?_
                      refine TC_reg ?_
                      obtain ⟨g, h2⟩ := gd_t h2
                      refine TL_ev env 8 rfl ⟨trivial, ⟨trivial, ⟨trivial, ⟨⟨trivial, ⟨trivial, ⟨(by decide), g⟩⟩⟩, ⟨⟨trivial, trivial⟩, ⟨trivial, ⟨trivial, ⟨⟨trivial, trivial⟩, trivial⟩⟩⟩⟩⟩⟩⟩⟩ ?_
                      refine TL_end ?_
                      refine tbn ?_
                      refine TE_go ?_
                      refine TC_reg ?_
                      refine TL_ev env 2 rfl ⟨⟨trivial, ⟨trivial, trivial⟩⟩, ⟨trivial, trivial⟩⟩ ?_
                      refine TL_end ?_
                      refine tsn ?_
                      refine TE_renw (A' := [(0, .im (.slice (.int .u8)) _), (2, .p 1112000 0), (4, .p 1112001 0), (5, .p 1112002 0), (6, .int .i64 2), (7, .im (.slice (.int .u8)) _), (65, .hd 1112003 5), (66, .int .i64 5), (67, .int .i64 1)]) (L' := [(1112000, some (.cells [.int .i64 0, .int .i64 0, .int .i64 0, .int .i64 0, .int .i64 0, .int .i64 0, .int .i64 0, .int .i64 0, .int .i64 0, .int .i64 0, .int .i64 0, .int .i64 0, .int .i64 0, .int .i64 0, .int .i64 0])), (1112001, some (.cells [.int .i64 _, .int .i64 _, .int .i64 _, .int .i64 _, .int .i64 _, .int .i64 _, .int .i64 _, .int .i64 _, .int .i64 _, .int .i64 _, .int .i64 _, .int .i64 _, .int .i64 _, .int .i64 _, .int .i64 _])), (1112002, some (.cells [.bool false, .bool _, .bool true, .bool _])), (1112003, some (.cells [.p 1112001 8, .p 1112001 9, .p 1112001 10, .p 1112001 11, .p 1112001 12]))]) [(1112000, 12500), (1112001, 12501), (1112002, 12502), (1112003, 500490)] ⟨rfl, rfl, rfl, rfl, rfl, rfl, rfl, rfl, rfl, trivial⟩ ⟨rfl, rfl, rfl, rfl, trivial⟩ rfl ?_
                      refine TE_lb ?_
                      refine TC_seq ?_
                      refine TC_reg ?_
                      refine TL_ev env 1 rfl ⟨⟨trivial, ⟨trivial, trivial⟩⟩, trivial⟩ ?_
                      refine TL_end ?_
                      refine TE_go ?_
                      refine TC_seq ?_
                      refine TC_cond rfl (fun hb => ?_) (fun hb => ?_)
                      · refine TC_skip ?_
                        refine TE_go ?_
                        refine TC_seq ?_
                        refine TC_blk ?_
                        refine TC_seq ?_
                        refine TC_reg ?_
                        refine TL_ev env 5 rfl ⟨trivial, ⟨⟨trivial, ⟨trivial, ⟨(by decide), (by decide)⟩⟩⟩, ⟨⟨trivial, trivial⟩, ⟨trivial, ⟨trivial, trivial⟩⟩⟩⟩⟩ ?_
                        refine TL_end ?_
                        refine TE_go ?_
                        refine TC_reg ?_
                        obtain ⟨g, h2⟩ := gd_t h2
                        refine TL_ev env 8 rfl ⟨trivial, ⟨trivial, ⟨trivial, ⟨⟨trivial, ⟨trivial, ⟨(by decide), g⟩⟩⟩, ⟨⟨trivial, trivial⟩, ⟨trivial, ⟨trivial, ⟨⟨trivial, trivial⟩, trivial⟩⟩⟩⟩⟩⟩⟩⟩ ?_
                        refine TL_end ?_
                        refine tbn ?_
                        refine TE_go ?_
                        refine TC_reg ?_
                        refine TL_ev env 2 rfl ⟨⟨trivial, ⟨trivial, trivial⟩⟩, ⟨trivial, trivial⟩⟩ ?_
                        refine TL_end ?_
                        refine tsn ?_
                        refine TE_renw (A' := [(0, .im (.slice (.int .u8)) _), (2, .p 1113000 0), (4, .p 1113001 0), (5, .p 1113002 0), (6, .int .i64 2), (7, .im (.slice (.int .u8)) _), (65, .hd 1113003 5), (66, .int .i64 5), (67, .int .i64 2)]) (L' := [(1113000, some (.cells [.int .i64 0, .int .i64 0, .int .i64 0, .int .i64 0, .int .i64 0, .int .i64 0, .int .i64 0, .int .i64 0, .int .i64 0, .int .i64 0, .int .i64 0, .int .i64 0, .int .i64 0, .int .i64 0, .int .i64 0])), (1113001, some (.cells [.int .i64 _, .int .i64 _, .int .i64 _, .int .i64 _, .int .i64 _, .int .i64 _, .int .i64 _, .int .i64 _, .int .i64 _, .int .i64 _, .int .i64 _, .int .i64 _, .int .i64 _, .int .i64 _, .int .i64 _])), (1113002, some (.cells [.bool false, .bool _, .bool true, .bool _])), (1113003, some (.cells [.p 1113001 8, .p 1113001 9, .p 1113001 10, .p 1113001 11, .p 1113001 12]))]) [(1113000, 1112000), (1113001, 1112001), (1113002, 1112002), (1113003, 1112003)] ⟨rfl, rfl, rfl, rfl, rfl, rfl, rfl, rfl, rfl, trivial⟩ ⟨rfl, rfl, rfl, rfl, trivial⟩ rfl ?_
                        refine TE_lb ?_
                        refine TC_seq ?_
                        refine TC_reg ?_
                        refine TL_ev env 1 rfl ⟨⟨trivial, ⟨trivial, trivial⟩⟩, trivial⟩ ?_
                        refine TL_end ?_
                        refine TE_go ?_
                        refine TC_seq ?_
                        refine TC_cond rfl (fun hb => ?_) (fun hb => ?_)
                        · refine TC_skip ?_
                          refine TE_go ?_
                          refine TC_seq ?_
                          refine TC_blk ?_
                          refine TC_seq ?_
                          refine TC_reg ?_
                          refine TL_ev env 5 rfl ⟨trivial, ⟨⟨trivial, ⟨trivial, ⟨(by decide), (by decide)⟩⟩⟩, ⟨⟨trivial, trivial⟩, ⟨trivial, ⟨trivial, trivial⟩⟩⟩⟩⟩ ?_
                          refine TL_end ?_
                          refine TE_go ?_
                          refine TC_reg ?_
                          obtain ⟨g, h2⟩ := gd_t h2
                          refine TL_ev env 8 rfl ⟨trivial, ⟨trivial, ⟨trivial, ⟨⟨trivial, ⟨trivial, ⟨(by decide), g⟩⟩⟩, ⟨⟨trivial, trivial⟩, ⟨trivial, ⟨trivial, ⟨⟨trivial, trivial⟩, trivial⟩⟩⟩⟩⟩⟩⟩⟩ ?_
                          refine TL_end ?_
                          refine tbn ?_
                          refine TE_go ?_
                          refine TC_reg ?_
                          refine TL_ev env 2 rfl ⟨⟨trivial, ⟨trivial, trivial⟩⟩, ⟨trivial, trivial⟩⟩ ?_
                          refine TL_end ?_
                          refine tsn ?_
                          refine TE_renw (A' := [(0, .im (.slice (.int .u8)) _), (2, .p 1114000 0), (4, .p 1114001 0), (5, .p 1114002 0), (6, .int .i64 2), (7, .im (.slice (.int .u8)) _), (65, .hd 1114003 5), (66, .int .i64 5), (67, .int .i64 3)]) (L' := [(1114000, some (.cells [.int .i64 0, .int .i64 0, .int .i64 0, .int .i64 0, .int .i64 0, .int .i64 0, .int .i64 0, .int .i64 0, .int .i64 0, .int .i64 0, .int .i64 0, .int .i64 0, .int .i64 0, .int .i64 0, .int .i64 0])), (1114001, some (.cells [.int .i64 _, .int .i64 _, .int .i64 _, .int .i64 _, .int .i64 _, .int .i64 _, .int .i64 _, .int .i64 _, .int .i64 _, .int .i64 _, .int .i64 _, .int .i64 _, .int .i64 _, .int .i64 _, .int .i64 _])), (1114002, some (.cells [.bool false, .bool _, .bool true, .bool _])), (1114003, some (.cells [.p 1114001 8, .p 1114001 9, .p 1114001 10, .p 1114001 11, .p 1114001 12]))]) [(1114000, 1113000), (1114001, 1113001), (1114002, 1113002), (1114003, 1113003)] ⟨rfl, rfl, rfl, rfl, rfl, rfl, rfl, rfl, rfl, trivial⟩ ⟨rfl, rfl, rfl, rfl, trivial⟩ rfl ?_
                          refine TE_lb ?_
                          refine TC_seq ?_
                          refine TC_reg ?_
                          refine TL_ev env 1 rfl ⟨⟨trivial, ⟨trivial, trivial⟩⟩, trivial⟩ ?_
                          refine TL_end ?_
                          refine TE_go ?_
                          refine TC_seq ?_
                          refine TC_cond rfl (fun hb => ?_) (fun hb => ?_)
                          · refine TC_skip ?_
                            refine TE_go ?_
                            refine TC_seq ?_
                            refine TC_blk ?_
                            refine TC_seq ?_
                            refine TC_reg ?_
                            refine TL_ev env 5 rfl ⟨trivial, ⟨⟨trivial, ⟨trivial, ⟨(by decide), (by decide)⟩⟩⟩, ⟨⟨trivial, trivial⟩, ⟨trivial, ⟨trivial, trivial⟩⟩⟩⟩⟩ ?_
                            refine TL_end ?_
                            refine TE_go ?_
                            refine TC_reg ?_
                            obtain ⟨g, h2⟩ := gd_t h2
                            refine TL_ev env 8 rfl ⟨trivial, ⟨trivial, ⟨trivial, ⟨⟨trivial, ⟨trivial, ⟨(by decide), g⟩⟩⟩, ⟨⟨trivial, trivial⟩, ⟨trivial, ⟨trivial, ⟨⟨trivial, trivial⟩, trivial⟩⟩⟩⟩⟩⟩⟩⟩ ?_
                            refine TL_end ?_
                            refine tbn ?_
                            refine TE_go ?_
                            refine TC_reg ?_
                            refine TL_ev env 2 rfl ⟨⟨trivial, ⟨trivial, trivial⟩⟩, ⟨trivial, trivial⟩⟩ ?_
                            refine TL_end ?_
                            refine tsn ?_
                            refine TE_renw (A' := [(0, .im (.slice (.int .u8)) _), (2, .p 1115000 0), (4, .p 1115001 0), (5, .p 1115002 0), (6, .int .i64 2), (7, .im (.slice (.int .u8)) _), (65, .hd 1115003 5), (66, .int .i64 5), (67, .int .i64 4)]) (L' := [(1115000, some (.cells [.int .i64 0, .int .i64 0, .int .i64 0, .int .i64 0, .int .i64 0, .int .i64 0, .int .i64 0, .int .i64 0, .int .i64 0, .int .i64 0, .int .i64 0, .int .i64 0, .int .i64 0, .int .i64 0, .int .i64 0])), (1115001, some (.cells [.int .i64 _, .int .i64 _, .int .i64 _, .int .i64 _, .int .i64 _, .int .i64 _, .int .i64 _, .int .i64 _, .int .i64 _, .int .i64 _, .int .i64 _, .int .i64 _, .int .i64 _, .int .i64 _, .int .i64 _])), (1115002, some (.cells [.bool false, .bool _, .bool true, .bool _])), (1115003, some (.cells [.p 1115001 8, .p 1115001 9, .p 1115001 10, .p 1115001 11, .p 1115001 12]))]) [(1115000, 1114000), (1115001, 1114001), (1115002, 1114002), (1115003, 1114003)] ⟨rfl, rfl, rfl, rfl, rfl, rfl, rfl, rfl, rfl, trivial⟩ ⟨rfl, rfl, rfl, rfl, trivial⟩ rfl ?_
                            refine TE_lb ?_
                            refine TC_seq ?_
                            refine TC_reg ?_
                            refine TL_ev env 1 rfl ⟨⟨trivial, ⟨trivial, trivial⟩⟩, trivial⟩ ?_
                            refine TL_end ?_
                            refine TE_go ?_
                            refine TC_seq ?_
                            refine TC_cond rfl (fun hb => ?_) (fun hb => ?_)
                            · refine TC_skip ?_
                              refine TE_go ?_
                              refine TC_seq ?_
                              refine TC_blk ?_
                              refine TC_seq ?_
                              refine TC_reg ?_
                              refine TL_ev env 5 rfl ⟨trivial, ⟨⟨trivial, ⟨trivial, ⟨(by decide), (by decide)⟩⟩⟩, ⟨⟨trivial, trivial⟩, ⟨trivial, ⟨trivial, trivial⟩⟩⟩⟩⟩ ?_
                              refine TL_end ?_
                              refine TE_go ?_
                              refine TC_reg ?_
                              obtain ⟨g, h2⟩ := gd_t h2
                              refine TL_ev env 8 rfl ⟨trivial, ⟨trivial, ⟨trivial, ⟨⟨trivial, ⟨trivial, ⟨(by decide), g⟩⟩⟩, ⟨⟨trivial, trivial⟩, ⟨trivial, ⟨trivial, ⟨⟨trivial, trivial⟩, trivial⟩⟩⟩⟩⟩⟩⟩⟩ ?_
                              refine TL_end ?_
                              refine tbn ?_
                              refine TE_go ?_
                              refine TC_reg ?_
                              refine TL_ev env 2 rfl ⟨⟨trivial, ⟨trivial, trivial⟩⟩, ⟨trivial, trivial⟩⟩ ?_
                              refine TL_end ?_
                              refine tsn ?_
                              refine TE_renw (A' := [(0, .im (.slice (.int .u8)) _), (2, .p 1116000 0), (4, .p 1116001 0), (5, .p 1116002 0), (6, .int .i64 2), (7, .im (.slice (.int .u8)) _), (65, .hd 1116003 5), (66, .int .i64 5), (67, .int .i64 5)]) (L' := [(1116000, some (.cells [.int .i64 0, .int .i64 0, .int .i64 0, .int .i64 0, .int .i64 0, .int .i64 0, .int .i64 0, .int .i64 0, .int .i64 0, .int .i64 0, .int .i64 0, .int .i64 0, .int .i64 0, .int .i64 0, .int .i64 0])), (1116001, some (.cells [.int .i64 _, .int .i64 _, .int .i64 _, .int .i64 _, .int .i64 _, .int .i64 _, .int .i64 _, .int .i64 _, .int .i64 _, .int .i64 _, .int .i64 _, .int .i64 _, .int .i64 _, .int .i64 _, .int .i64 _])), (1116002, some (.cells [.bool false, .bool _, .bool true, .bool _])), (1116003, some (.cells [.p 1116001 8, .p 1116001 9, .p 1116001 10, .p 1116001 11, .p 1116001 12]))]) [(1116000, 1115000), (1116001, 1115001), (1116002, 1115002), (1116003, 1115003)] ⟨rfl, rfl, rfl, rfl, rfl, rfl, rfl, rfl, rfl, trivial⟩ ⟨rfl, rfl, rfl, rfl, trivial⟩ rfl ?_
                              refine TE_lb ?_
                              refine TC_seq ?_
                              refine TC_reg ?_
                              refine TL_ev env 1 rfl ⟨⟨trivial, ⟨trivial, trivial⟩⟩, trivial⟩ ?_
                              refine TL_end ?_
                              refine TE_go ?_
                              refine TC_seq ?_
                              refine TC_cond rfl (fun hb => ?_) (fun hb => ?_)
                              · first | exact (ftf hb).elim | exact (tff hb).elim | exact absurd hb (by decide)
                              · refine TC_exit ?_
                                refine tsx ?_
                                refine tsx ?_
                                refine tbe ?_
                                obtain rfl := sinj h2
                                refine tsn ?_
                                exact SP_ren [(13100, 1116000), (13101, 1116001), (13102, 1116002)] (_, _, _, _, _) rfl ⟨rfl, rfl, rfl, rfl, rfl, trivial⟩ ⟨rfl, rfl, rfl, trivial⟩ rfl
                            · first | exact (ftf hb).elim | exact (tff hb).elim | exact absurd hb (by decide)
                          · first | exact (ftf hb).elim | exact (tff hb).elim | exact absurd hb (by decide)
                        · first | exact (ftf hb).elim | exact (tff hb).elim | exact absurd hb (by decide)
                      · first | exact (ftf hb).elim | exact (tff hb).elim | exact absurd hb (by decide)
                    · first | exact (ftf hb).elim | exact (tff hb).elim | exact absurd hb (by decide)
                  · rintro ⟨x281, x282, x283, x284, x285⟩ rfl
                    refine TE_go ?_
                    refine TC_seq ?_
                    refine TC_reg ?_
                    refine TL_ev env 3 rfl ⟨trivial, ⟨⟨trivial, ⟨trivial, trivial⟩⟩, ⟨trivial, trivial⟩⟩⟩ ?_
                    refine TL_gf (.bool false) rfl rfl rfl rfl rfl (by decide) ?_
                    refine TL_gf (.bool false) rfl rfl rfl rfl rfl (by decide) ?_
                    refine TL_gf (.bool false) rfl rfl rfl rfl rfl (by decide) ?_
                    refine TL_gf (.bool false) rfl rfl rfl rfl rfl (by decide) ?_
                    refine TL_ev env 2 rfl ⟨⟨trivial, ⟨fun e => e, trivial⟩⟩, ⟨trivial, trivial⟩⟩ ?_
                    refine TL_gt rfl rfl rfl rfl ?_
                    refine TL_ev env 1 rfl ⟨trivial, trivial⟩ ?_
                    refine TL_gt rfl rfl rfl rfl ?_
                    refine TL_ev env 1 rfl ⟨⟨trivial, ⟨trivial, trivial⟩⟩, trivial⟩ ?_
                    refine TL_gt rfl rfl rfl rfl ?_
                    refine TL_ev env 1 rfl ⟨trivial, trivial⟩ ?_
                    refine TL_gt rfl rfl rfl rfl ?_
                    refine TL_ev env 1 rfl ⟨trivial, trivial⟩ ?_
                    refine TL_gt rfl rfl rfl rfl ?_
                    refine TL_ev env 1 rfl ⟨⟨trivial, trivial⟩, trivial⟩ ?_
                    refine TL_gt rfl rfl rfl rfl ?_
                    refine TL_ev env 1 rfl ⟨trivial, trivial⟩ ?_
                    refine TL_gt rfl rfl rfl rfl ?_
                    refine TL_ev env 1 rfl ⟨⟨trivial, ⟨trivial, trivial⟩⟩, trivial⟩ ?_
                    refine TL_gt rfl rfl rfl rfl ?_
                    refine TL_ev env 2 rfl ⟨⟨trivial, ⟨trivial, trivial⟩⟩, ⟨⟨trivial, ⟨trivial, trivial⟩⟩, trivial⟩⟩ ?_
                    refine TL_end ?_
                    refine TE_go ?_
                    refine TC_cond rfl (fun hb => ?_) (fun hb => ?_)
                    · replace h1 := bif_t h1 hb
                      refine TC_seq ?_
                      refine TC_reg ?_
                      refine TL_ev env 3 rfl ⟨trivial, ⟨⟨trivial, trivial⟩, ⟨trivial, trivial⟩⟩⟩ ?_
                      refine TL_end ?_
                      refine TE_go ?_
                      refine TC_ret ?_
                      refine tbr ?_
                      refine tsr ?_
                      refine tbr ?_
                      refine tsr ?_
                      refine tsr ?_
                      obtain rfl := sinj h1
                      obtain rfl := sinj h0
                      exact TE_ret env rfl ⟨trivial, trivial⟩ trivial
                    · replace h1 := bif_f h1 hb
                      refine TC_skip ?_
                      refine tbn ?_
                      refine tsn ?_
                      exact TE_nextr [(12500, 13100), (12501, 13101), (12502, 13102)] n (Nat.lt_succ_self n) (_, _, _, _, _, _, _, _, _, _, _, _, _, _, _, _, _, _, _) h1 ⟨rfl, rfl, rfl, rfl, trivial⟩ ⟨rfl, rfl, rfl, trivial⟩ rfl
            · refine nums h1 (fun hx h1 => TL_num 35 3 hx rfl ( TL_num 6 3 hx rfl ( TL_num 48 3 hx rfl ?_))) (fun h1 => ?_)
              · obtain ⟨⟨⟩, hr, h1⟩ := bnd h1
                refine TL_callB [(0, 12501), (1000, 500490)] (caps_Caps_fields_4.ok0 hr) caps_Caps_fields_4.fnb rfl ⟨trivial, ⟨trivial, ⟨trivial, trivial⟩⟩⟩ rfl ⟨.inr rfl, trivial⟩ rfl ?_
                refine TL_ev env 1 rfl ⟨trivial, trivial⟩ ?_
                refine TL_end ?_
                refine TE_go ?_
                refine TC_seq ?_
                refine TC_seq ?_
                refine TC_reg ?_
                refine TL_ev env 2 rfl ⟨trivial, ⟨⟨trivial, ⟨trivial, trivial⟩⟩, trivial⟩⟩ ?_
                refine TL_end ?_
                refine TE_go ?_
                refine TC_cond rfl (fun hb => ?_) (fun hb => ?_)
                · first | exact (ftf hb).elim | exact (tff hb).elim | exact absurd hb (by decide)
                · refine TC_skip ?_
                  refine TE_go ?_
                  refine TC_seq ?_
                  refine TC_seq ?_
                  refine TC_reg ?_
                  refine TL_ev env 10 rfl ⟨trivial, ⟨⟨trivial, ⟨trivial, ⟨(by decide), (by decide)⟩⟩⟩, ⟨⟨trivial, trivial⟩, ⟨trivial, ⟨fun eg => trivial, ⟨fun eg => ⟨fun e => e, trivial⟩, ⟨fun eg => trivial, ⟨fun eg => ⟨fun e => e, trivial⟩, ⟨fun eg => ⟨fun e => e, ⟨fun e => e, trivial⟩⟩, ⟨⟨trivial, ⟨trivial, fun e => e⟩⟩, trivial⟩⟩⟩⟩⟩⟩⟩⟩⟩⟩ ?_
                  refine TL_end ?_
                  refine TE_go ?_
                  refine TC_cond rfl (fun hb => ?_) (fun hb => ?_)
                  · replace h1 := bif_t h1 hb
                    refine TC_seq ?_
                    refine TC_reg ?_
                    refine TL_ev env 3 rfl ⟨trivial, ⟨⟨trivial, trivial⟩, ⟨trivial, trivial⟩⟩⟩ ?_
                    refine TL_end ?_
                    refine TE_go ?_
                    refine TC_ret ?_
                    refine tsr ?_
                    refine tbr ?_
                    refine tsr ?_
                    refine tbr ?_
                    refine tsr ?_
                    refine tsr ?_
                    obtain rfl := sinj h1
                    obtain rfl := sinj h0
                    exact TE_ret env rfl ⟨trivial, trivial⟩ trivial
                  · replace h1 := bif_f h1 hb
                    refine TC_skip ?_
                    refine TE_go ?_
                    refine TC_seq ?_
                    refine TC_reg ?_
                    refine TL_ev env 3 rfl ⟨trivial, ⟨⟨trivial, ⟨trivial, ⟨(by decide), (by decide)⟩⟩⟩, ⟨⟨trivial, trivial⟩, trivial⟩⟩⟩ ?_
                    refine TL_end ?_
                    refine TE_go ?_
                    refine TC_seq ?_
                    refine TC_seq ?_
                    refine TC_reg ?_
                    refine TL_ev env 3 rfl ⟨trivial, ⟨⟨trivial, trivial⟩, ⟨trivial, trivial⟩⟩⟩ ?_
                    refine TL_end ?_
                    refine TE_go ?_
                    obtain ⟨z2, h2, h1⟩ := bnd h1
                    refine TC_cut (α := Int × Int) (fun s => z2 = s) (fun s => [(0, .im (.slice (.int .u8)) ((x185.take (Int.toNat (x185.length : Int))).drop (Int.toNat (kwrap .i64 (2 + (((x185.take (Int.toNat (kwrap .i64 (2 + (kwrap .i64 (Kd.nth (.int .u8) x185 1)))))).drop (Int.toNat 2)).length : Int)))))), (2, .p 13200 0), (4, .p 13201 0), (5, .p 13202 0), (6, .int .i64 3)]) (fun s => [(13200, some (.cells [.int .i64 0, .int .i64 0, .int .i64 0, .int .i64 0, .int .i64 0, .int .i64 0, .int .i64 0, .int .i64 0, .int .i64 0, .int .i64 0, .int .i64 0, .int .i64 0, .int .i64 0, .int .i64 0, .int .i64 0])), (13201, some (.cells [.int .i64 x186, .int .i64 x187, .int .i64 x188, .int .i64 x189, .int .i64 x190, .int .i64 x191, .int .i64 x192, .int .i64 x193, .int .i64 x194, .int .i64 x195, .int .i64 x196, .int .i64 x197, .int .i64 x198, .int .i64 s.1, .int .i64 s.2])), (13202, some (.cells [.bool false, .bool x201, .bool x202, .bool true]))]) ?_ ?_
                    · refine TC_blk ?_
                      refine TC_loopU ?_
                      refine TE_lb ?_
                      refine TC_seq ?_
                      refine TC_reg ?_
                      refine TL_ev env 1 rfl ⟨⟨trivial, ⟨trivial, trivial⟩⟩, trivial⟩ ?_
                      refine TL_end ?_
                      refine TE_go ?_
                      refine TC_seq ?_
                      refine TC_cond rfl (fun hb => ?_) (fun hb => ?_)
                      · refine TC_skip ?_
                        refine TE_go ?_
                        refine TC_seq ?_
                        refine TC_blk ?_
                        refine TC_seq ?_
                        refine TC_reg ?_
                        refine TL_ev env 5 rfl ⟨trivial, ⟨⟨trivial, ⟨trivial, ⟨(by decide), (by decide)⟩⟩⟩, ⟨⟨trivial, trivial⟩, ⟨trivial, ⟨trivial, trivial⟩⟩⟩⟩⟩ ?_
                        refine TL_end ?_
                        refine TE_go ?_
                        refine TC_reg ?_
                        obtain ⟨g, h2⟩ := gd_t h2
                        refine TL_ev env 8 rfl ⟨trivial, ⟨trivial, ⟨trivial, ⟨⟨trivial, ⟨trivial, ⟨(by decide), g⟩⟩⟩, ⟨⟨trivial, trivial⟩, ⟨trivial, ⟨trivial, ⟨⟨trivial, trivial⟩, trivial⟩⟩⟩⟩⟩⟩⟩⟩ ?_
                        refine TL_end ?_
                        refine tbn ?_
                        refine TE_go ?_
                        refine TC_reg ?_
                        refine TL_ev env 2 rfl ⟨⟨trivial, ⟨trivial, trivial⟩⟩, ⟨trivial, trivial⟩⟩ ?_
                        refine TL_end ?_
                        refine tsn ?_
                        refine TE_renw (A' := [(0, .im (.slice (.int .u8)) _), (2, .p 1119000 0), (4, .p 1119001 0), (5, .p 1119002 0), (6, .int .i64 3), (7, .im (.slice (.int .u8)) _), (65, .hd 1119003 2), (66, .int .i64 2), (67, .int .i64 1)]) (L' := [(1119000, some (.cells [.int .i64 0, .int .i64 0, .int .i64 0, .int .i64 0, .int .i64 0, .int .i64 0, .int .i64 0, .int .i64 0, .int .i64 0, .int .i64 0, .int .i64 0, .int .i64 0, .int .i64 0, .int .i64 0, .int .i64 0])), (1119001, some (.cells [.int .i64 _, .int .i64 _, .int .i64 _, .int .i64 _, .int .i64 _, .int .i64 _, .int .i64 _, .int .i64 _, .int .i64 _, .int .i64 _, .int .i64 _, .int .i64 _, .int .i64 _, .int .i64 _, .int .i64 _])), (1119002, some (.cells [.bool false, .bool _, .bool _, .bool true])), (1119003, some (.cells [.p 1119001 13, .p 1119001 14]))]) [(1119000, 12500), (1119001, 12501), (1119002, 12502), (1119003, 500490)] ⟨rfl, rfl, rfl, rfl, rfl, rfl, rfl, rfl, rfl, trivial⟩ ⟨rfl, rfl, rfl, rfl, trivial⟩ rfl ?_
                        refine TE_lb ?_
                        refine TC_seq ?_
                        refine TC_reg ?_
                        refine TL_ev env 1 rfl ⟨⟨trivial, ⟨trivial, trivial⟩⟩, trivial⟩ ?_
                        refine TL_end ?_
                        refine TE_go ?_
                        refine TC_seq ?_
                        refine TC_cond rfl (fun hb => ?_) (fun hb => ?_)
                        · refine TC_skip ?_
                          refine TE_go ?_
                          refine TC_seq ?_
                          refine TC_blk ?_
                          refine TC_seq ?_
                          refine TC_reg ?_
                          refine TL_ev env 5 rfl ⟨trivial, ⟨⟨trivial, ⟨trivial, ⟨(by decide), (by decide)⟩⟩⟩, ⟨⟨trivial, trivial⟩, ⟨trivial, ⟨trivial, trivial⟩⟩⟩⟩⟩ ?_
                          refine TL_end ?_
                          refine TE_go ?_
                          refine TC_reg ?_
                          obtain ⟨g, h2⟩ := gd_t h2
                          refine TL_ev env 8 rfl ⟨trivial, ⟨trivial, ⟨trivial, ⟨⟨trivial, ⟨trivial, ⟨(by decide), g⟩⟩⟩, ⟨⟨trivial, trivial⟩, ⟨trivial, ⟨trivial, ⟨⟨trivial, trivial⟩, trivial⟩⟩⟩⟩⟩⟩⟩⟩ ?_
                          refine TL_end ?_
                          refine tbn ?_
                          refine TE_go ?_
                          refine TC_reg ?_
                          refine TL_ev env 2 rfl ⟨⟨trivial, ⟨trivial, trivial⟩⟩, ⟨trivial, trivial⟩⟩ ?_
                          refine TL_end ?_
                          refine tsn ?_
                          refine TE_renw (A' := [(0, .im (.slice (.int .u8)) _), (2, .p 1120000 0), (4, .p 1120001 0), (5, .p 1120002 0), (6, .int .i64 3), (7, .im (.slice (.int .u8)) _), (65, .hd 1120003 2), (66, .int .i64 2), (67, .int .i64 2)]) (L' := [(1120000, some (.cells [.int .i64 0, .int .i64 0, .int .i64 0, .int .i64 0, .int .i64 0, .int .i64 0, .int .i64 0, .int .i64 0, .int .i64 0, .int .i64 0, .int .i64 0, .int .i64 0, .int .i64 0, .int .i64 0, .int .i64 0])), (1120001, some (.cells [.int .i64 _, .int .i64 _, .int .i64 _, .int .i64 _, .int .i64 _, .int .i64 _, .int .i64 _, .int .i64 _, .int .i64 _, .int .i64 _, .int .i64 _, .int .i64 _, .int .i64 _, .int .i64 _, .int .i64 _])), (1120002, some (.cells [.bool false, .bool _, .bool _, .bool true])), (1120003, some (.cells [.p 1120001 13, .p 1120001 14]))]) [(1120000, 1119000), (1120001, 1119001), (1120002, 1119002), (1120003, 1119003)] ⟨rfl, rfl, rfl, rfl, rfl, rfl, rfl, rfl, rfl, trivial⟩ ⟨rfl, rfl, rfl, rfl, trivial⟩ rfl ?_
                          refine TE_lb ?_
                          refine TC_seq ?_
                          refine TC_reg ?_
                          refine TL_ev env 1 rfl ⟨⟨trivial, ⟨trivial, trivial⟩⟩, trivial⟩ ?_
                          refine TL_end ?_
                          refine TE_go ?_
                          refine TC_seq ?_
                          refine TC_cond rfl (fun hb => ?_) (fun hb => ?_)
                          · first | exact (ftf hb).elim | exact (tff hb).elim | exact absurd hb (by decide)
                          · refine TC_exit ?_
                            refine tsx ?_
                            refine tsx ?_
                            refine tbe ?_
                            obtain rfl := sinj h2
                            refine tsn ?_
                            exact SP_ren [(13200, 1120000), (13201, 1120001), (13202, 1120002)] (_, _) rfl ⟨rfl, rfl, rfl, rfl, rfl, trivial⟩ ⟨rfl, rfl, rfl, trivial⟩ rfl
                        · first | exact (ftf hb).elim | exact (tff hb).elim | exact absurd hb (by decide)
                      · first | exact (ftf hb).elim | exact (tff hb).elim | exact absurd hb (by decide)
                    · rintro ⟨x298, x299⟩ rfl
                      refine TE_go ?_
                      refine TC_seq ?_
                      refine TC_reg ?_
                      refine TL_ev env 3 rfl ⟨trivial, ⟨⟨trivial, ⟨trivial, trivial⟩⟩, ⟨trivial, trivial⟩⟩⟩ ?_
                      refine TL_gf (.bool false) rfl rfl rfl rfl rfl (by decide) ?_
                      refine TL_gf (.bool false) rfl rfl rfl rfl rfl (by decide) ?_
                      refine TL_gf (.bool false) rfl rfl rfl rfl rfl (by decide) ?_
                      refine TL_gf (.bool false) rfl rfl rfl rfl rfl (by decide) ?_
                      refine TL_ev env 2 rfl ⟨⟨trivial, ⟨fun e => e, trivial⟩⟩, ⟨trivial, trivial⟩⟩ ?_
                      refine TL_gt rfl rfl rfl rfl ?_
                      refine TL_ev env 1 rfl ⟨trivial, trivial⟩ ?_
                      refine TL_gt rfl rfl rfl rfl ?_
                      refine TL_ev env 1 rfl ⟨⟨trivial, ⟨trivial, trivial⟩⟩, trivial⟩ ?_
                      refine TL_gt rfl rfl rfl rfl ?_
                      refine TL_ev env 1 rfl ⟨trivial, trivial⟩ ?_
                      refine TL_gf (.bool false) rfl rfl rfl rfl rfl (by decide) ?_
                      refine TL_gf (.bool false) rfl rfl rfl rfl rfl (by decide) ?_
                      refine TL_gf (.bool false) rfl rfl rfl rfl rfl (by decide) ?_
                      refine TL_gf (.bool false) rfl rfl rfl rfl rfl (by decide) ?_
                      refine TL_gt rfl rfl rfl rfl ?_
                      refine TL_ev env 2 rfl ⟨⟨trivial, ⟨fun e => e, trivial⟩⟩, ⟨⟨trivial, ⟨trivial, trivial⟩⟩, trivial⟩⟩ ?_
                      refine TL_end ?_
                      refine TE_go ?_
                      refine TC_cond rfl (fun hb => ?_) (fun hb => ?_)
                      · first | exact (ftf hb).elim | exact (tff hb).elim | exact absurd hb (by decide)
                      · refine TC_skip ?_
                        refine tbn ?_
                        refine tsn ?_
                        exact TE_nextr [(12500, 13200), (12501, 13201), (12502, 13202)] n (Nat.lt_succ_self n) (_, _, _, _, _, _, _, _, _, _, _, _, _, _, _, _, _, _, _) h1 ⟨rfl, rfl, rfl, rfl, trivial⟩ ⟨rfl, rfl, rfl, trivial⟩ rfl
              · obtain ⟨z, hr, h1⟩ := bnd h1
                rcases z with ⟨⟩ | ⟨⟩ | ⟨⟩ | ⟨⟩
                · exact (nsome h1).elim
                · exact (nsome h1).elim
                · exact (nsome h1).elim
                · refine TL_callB [(0, 12501)] (caps_Caps_fields.ok3 hr) caps_Caps_fields.fnb rfl ⟨trivial, ⟨trivial, ⟨trivial, trivial⟩⟩⟩ rfl ⟨.inr rfl, trivial⟩ rfl ?_
                  refine TL_ev env 1 rfl ⟨trivial, trivial⟩ ?_
                  refine TL_end ?_
                  refine TE_go ?_
                  refine TC_seq ?_
                  refine TC_seq ?_
                  refine TC_reg ?_
                  refine TL_ev env 2 rfl ⟨trivial, ⟨⟨trivial, ⟨trivial, trivial⟩⟩, trivial⟩⟩ ?_
                  refine TL_end ?_
                  refine TE_go ?_
                  refine TC_cond rfl (fun hb => ?_) (fun hb => ?_)
                  · refine TC_exit ?_
                    refine tsx ?_
                    refine tbe ?_
                    refine tsn ?_
                    exact TE_nextr [(12500, 12500), (12501, 12501), (12502, 12502)] n (Nat.lt_succ_self n) (_, _, _, _, _, _, _, _, _, _, _, _, _, _, _, _, _, _, _) h1 ⟨rfl, rfl, rfl, rfl, trivial⟩ ⟨rfl, rfl, rfl, trivial⟩ rfl
                  · first | exact (ftf hb).elim | exact (tff hb).elim | exact absurd hb (by decide)
      · replace h1 := bif_f h1 hb
        refine TC_exit ?_
        refine tsx ?_
        refine tsx ?_
        refine tbe ?_
        obtain rfl := sinj h1
        refine tsn ?_
        exact SP_ren [(12000, 12500), (12001, 12501)] (_, _, _, _, _, _, _, _, _, _, _, _, _, _, _) rfl ⟨rfl, rfl, trivial⟩ ⟨rfl, rfl, trivial⟩ rfl
    · rintro ⟨x154, x155, x156, x157, x158, x159, x160, x161, x162, x163, x164, x165, x166, x167, x168⟩ rfl
      refine TE_go ?_
      refine TC_seq ?_
      refine TC_seq ?_
      refine TC_reg ?_
      refine TL_ev env 1 rfl ⟨⟨trivial, trivial⟩, trivial⟩ ?_
      obtain ⟨r169, hr, h0⟩ := bnd h0
      refine TL_callB [] (caps_Check.ok0 hr) caps_Check.fnb rfl ⟨trivial, ⟨trivial, trivial⟩⟩ rfl trivial rfl ?_
      refine TL_ev env 1 rfl ⟨⟨trivial, ⟨trivial, trivial⟩⟩, trivial⟩ ?_
      refine TL_end ?_
      refine TE_go ?_
      refine TC_cond rfl (fun hb => ?_) (fun hb => ?_)
      · replace h0 := bif_t h0 hb
        refine TC_seq ?_
        refine TC_reg ?_
        refine TL_ev env 3 rfl ⟨trivial, ⟨⟨trivial, trivial⟩, ⟨trivial, trivial⟩⟩⟩ ?_
        refine TL_end ?_
        refine TE_go ?_
        refine TC_ret ?_
        refine tsr ?_
        obtain rfl := sinj h0
        exact TE_ret env rfl ⟨trivial, trivial⟩ trivial
      · replace h0 := bif_f h0 hb
        refine TC_skip ?_
        refine TE_go ?_
        refine TC_seq ?_
        refine TC_reg ?_
        refine TL_ev env 3 rfl ⟨⟨trivial, trivial⟩, ⟨⟨trivial, trivial⟩, ⟨trivial, trivial⟩⟩⟩ ?_
        refine TL_end ?_
        refine TE_go ?_
        refine TC_ret ?_
        obtain rfl := sinj h0
        exact TE_ret env rfl ⟨trivial, trivial⟩ trivial
theorem caps_Parse.ok0 {K : Nat} {p0 : List (Int)} {q0 : Int} {q1 : Int} {q2 : Int} {q3 : Int} {q4 : Int} {q5 : Int} {q6 : Int} {q7 : Int} {q8 : Int} {q9 : Int} {q10 : Int} {q11 : Int} {q12 : Int} {q13 : Int} {q14 : Int} {q15 : Int} (h0 : caps_Parse K p0 = some (q0, q1, q2, q3, q4, q5, q6, q7, q8, q9, q10, q11, q12, q13, q14, q15)) : Fn Try.prog 43 [.im (.slice (.int .u8)) p0] [] (.tup [.agg [.int .i64 q0, .int .i64 q1, .int .i64 q2, .int .i64 q3, .int .i64 q4, .int .i64 q5, .int .i64 q6, .int .i64 q7, .int .i64 q8, .int .i64 q9, .int .i64 q10, .int .i64 q11, .int .i64 q12, .int .i64 q13, .int .i64 q14], .int .i64 q15]) [] := caps_Parse.ok h0
theorem caps_Parse.fnb : fnb Try.prog 43 = true := fnb_of Try.func43 rfl
def psalterylaw23_alive.res  : Bool → MV
  | q0 => .bool q0
def psalterylaw23_alive.out  : Bool → List (Nat × Option MObj)
  | _ => []
theorem psalterylaw23_alive.ok {K : Nat}  {r : Bool} (h0 : psalterylaw23_alive K  = some r) : Fn Try.prog 40 [] [] (psalterylaw23_alive.res  r) (psalterylaw23_alive.out  r) := by
  refine Fn_of Try.func40 rfl (Nat.le_of_ble_eq_true rfl) fun Γ => ?_
  refine TC_seq ?_
  refine TC_reg ?_
  refine TL_ev env 1 rfl ⟨trivial, trivial⟩ ?_
  refine TL_end ?_
  refine TE_go ?_
  refine TC_seq ?_
  refine TC_reg ?_
  refine TL_ev env 1 rfl ⟨⟨trivial, ⟨trivial, ⟨trivial, ⟨trivial, trivial⟩⟩⟩⟩, trivial⟩ ?_
  refine TL_frz 1006 rfl ?_
  obtain ⟨⟨r33, r34, r35, r36, r37, r38, r39, r40, r41, r42, r43, r44, r45, r46, r47, r48⟩, hr, h0⟩ := bnd h0
  refine TL_callB [] (caps_Parse.ok0 hr) caps_Parse.fnb rfl ⟨trivial, ⟨trivial, trivial⟩⟩ rfl trivial rfl ?_
  refine TL_ev env 6 rfl ⟨trivial, ⟨trivial, ⟨trivial, ⟨trivial, ⟨⟨trivial, trivial⟩, ⟨trivial, trivial⟩⟩⟩⟩⟩⟩ ?_
  refine TL_end ?_
  refine TE_go ?_
  refine TC_seq ?_
  refine TC_reg ?_
  refine TL_ev env 1 rfl ⟨⟨trivial, ⟨trivial, ⟨trivial, ⟨trivial, ⟨trivial, ⟨trivial, ⟨trivial, ⟨trivial, ⟨trivial, ⟨trivial, ⟨trivial, trivial⟩⟩⟩⟩⟩⟩⟩⟩⟩⟩⟩, trivial⟩ ?_
  refine TL_frz 1011 rfl ?_
  obtain ⟨⟨r50, r51, r52, r53, r54, r55, r56, r57, r58, r59, r60, r61, r62, r63, r64, r65⟩, hr, h0⟩ := bnd h0
  refine TL_callB [] (caps_Parse.ok0 hr) caps_Parse.fnb rfl ⟨trivial, ⟨trivial, trivial⟩⟩ rfl trivial rfl ?_
  refine TL_ev env 6 rfl ⟨trivial, ⟨trivial, ⟨trivial, ⟨trivial, ⟨⟨trivial, trivial⟩, ⟨trivial, trivial⟩⟩⟩⟩⟩⟩ ?_
  refine TL_end ?_
  refine TE_go ?_
  refine TC_seq ?_
  refine TC_reg ?_
  refine TL_ev env 18 rfl ⟨trivial, ⟨⟨trivial, ⟨trivial, trivial⟩⟩, ⟨trivial, ⟨fun eg => trivial, ⟨fun eg => ⟨fun e => e, ⟨trivial, trivial⟩⟩, ⟨⟨trivial, ⟨fun e => e, trivial⟩⟩, ⟨trivial, ⟨fun eg => trivial, ⟨fun eg => ⟨fun e => e, trivial⟩, ⟨fun eg => ⟨fun e => e, ⟨trivial, trivial⟩⟩, ⟨⟨trivial, ⟨fun e => e, trivial⟩⟩, ⟨trivial, ⟨fun eg => trivial, ⟨fun eg => fun e => e, ⟨fun eg => ⟨fun e => e, trivial⟩, ⟨fun eg => ⟨fun e => e, ⟨trivial, trivial⟩⟩, ⟨⟨trivial, ⟨fun e => e, trivial⟩⟩, ⟨trivial, trivial⟩⟩⟩⟩⟩⟩⟩⟩⟩⟩⟩⟩⟩⟩⟩⟩⟩⟩ ?_
  refine TL_end ?_
  refine TE_go ?_
  refine TC_ret ?_
  obtain rfl := sinj h0
  exact TE_ret env rfl trivial trivial
theorem psalterylaw23_alive.ok0 {K : Nat}  {q0 : Bool} (h0 : psalterylaw23_alive K  = some q0) : Fn Try.prog 40 [] [] (.bool q0) [] := psalterylaw23_alive.ok h0
theorem psalterylaw23_alive.fnb : fnb Try.prog 40 = true := fnb_of Try.func40 rfl
def psalteryref23_Check.res (_p0 : Int) (_p1 : Int) (_p2 : Int) (_p3 : Int) (_p4 : Int) (_p5 : Int) (_p6 : Int) (_p7 : Int) (_p8 : Int) (_p9 : Int) (_p10 : Int) (_p11 : Int) (_p12 : Int) (_p13 : Int) (_p14 : Int) : Bool → MV
  | q0 => .bool q0
def psalteryref23_Check.out (_p0 : Int) (_p1 : Int) (_p2 : Int) (_p3 : Int) (_p4 : Int) (_p5 : Int) (_p6 : Int) (_p7 : Int) (_p8 : Int) (_p9 : Int) (_p10 : Int) (_p11 : Int) (_p12 : Int) (_p13 : Int) (_p14 : Int) : Bool → List (Nat × Option MObj)
  | _ => []
theorem psalteryref23_Check.ok {K : Nat} {p0 : Int} {p1 : Int} {p2 : Int} {p3 : Int} {p4 : Int} {p5 : Int} {p6 : Int} {p7 : Int} {p8 : Int} {p9 : Int} {p10 : Int} {p11 : Int} {p12 : Int} {p13 : Int} {p14 : Int} {r : Bool} (h0 : psalteryref23_Check K p0 p1 p2 p3 p4 p5 p6 p7 p8 p9 p10 p11 p12 p13 p14 = some r) : Fn Try.prog 47 [.agg [.int .i64 p0, .int .i64 p1, .int .i64 p2, .int .i64 p3, .int .i64 p4, .int .i64 p5, .int .i64 p6, .int .i64 p7, .int .i64 p8, .int .i64 p9, .int .i64 p10, .int .i64 p11, .int .i64 p12, .int .i64 p13, .int .i64 p14]] [] (psalteryref23_Check.res p0 p1 p2 p3 p4 p5 p6 p7 p8 p9 p10 p11 p12 p13 p14 r) (psalteryref23_Check.out p0 p1 p2 p3 p4 p5 p6 p7 p8 p9 p10 p11 p12 p13 p14 r) := by
  refine Fn_of Try.func47 rfl (Nat.le_of_ble_eq_true rfl) fun Γ => ?_
  refine TC_seq ?_
  refine TC_reg ?_
  refine TL_ev env 2 rfl ⟨trivial, ⟨trivial, trivial⟩⟩ ?_
  refine TL_end ?_
  refine TE_go ?_
  refine TC_seq ?_
  refine TC_reg ?_
  refine TL_ev env 4 rfl ⟨trivial, ⟨⟨trivial, trivial⟩, ⟨trivial, ⟨⟨trivial, trivial⟩, trivial⟩⟩⟩⟩ ?_
  refine TL_end ?_
  refine TE_go ?_
  refine TC_seq ?_
  refine TC_reg ?_
  refine TL_ev env 4 rfl ⟨trivial, ⟨⟨trivial, trivial⟩, ⟨trivial, ⟨⟨trivial, trivial⟩, trivial⟩⟩⟩⟩ ?_
  refine TL_end ?_
  refine TE_go ?_
  refine TC_seq ?_
  refine TC_reg ?_
  refine TL_ev env 4 rfl ⟨⟨trivial, trivial⟩, ⟨trivial, ⟨⟨trivial, ⟨trivial, trivial⟩⟩, ⟨trivial, trivial⟩⟩⟩⟩ ?_
  refine TL_end ?_
  refine TE_go ?_
  refine TC_seq ?_
  refine TC_reg ?_
  refine TL_ev env 4 rfl ⟨⟨trivial, trivial⟩, ⟨trivial, ⟨⟨trivial, ⟨trivial, trivial⟩⟩, ⟨trivial, trivial⟩⟩⟩⟩ ?_
  refine TL_end ?_
  refine TE_go ?_
  refine TC_seq ?_
  refine TC_seq ?_
  refine TC_reg ?_
  refine TL_ev env 24 rfl ⟨trivial, ⟨trivial, ⟨fun eg => trivial, ⟨⟨trivial, ⟨fun e => e, trivial⟩⟩, ⟨trivial, ⟨fun eg => trivial, ⟨fun eg => ⟨fun e => e, trivial⟩, ⟨fun eg => ⟨fun e => e, ⟨trivial, trivial⟩⟩, ⟨⟨trivial, ⟨trivial, fun e => e⟩⟩, ⟨trivial, ⟨fun eg => trivial, ⟨fun eg => ⟨fun e => e, trivial⟩, ⟨fun eg => ⟨fun e => e, ⟨trivial, trivial⟩⟩, ⟨⟨trivial, ⟨trivial, fun e => e⟩⟩, ⟨trivial, ⟨fun eg => trivial, ⟨fun eg => ⟨fun e => e, trivial⟩, ⟨fun eg => ⟨fun e => e, ⟨trivial, trivial⟩⟩, ⟨⟨trivial, ⟨trivial, fun e => e⟩⟩, ⟨trivial, ⟨fun eg => trivial, ⟨fun eg => ⟨fun e => e, trivial⟩, ⟨fun eg => ⟨fun e => e, ⟨trivial, trivial⟩⟩, ⟨⟨trivial, ⟨trivial, fun e => e⟩⟩, trivial⟩⟩⟩⟩⟩⟩⟩⟩⟩⟩⟩⟩⟩⟩⟩⟩⟩⟩⟩⟩⟩⟩⟩⟩ ?_
  refine TL_end ?_
  refine TE_go ?_
  refine TC_cond rfl (fun hb => ?_) (fun hb => ?_)
  · replace h0 := bif_t h0 hb
    refine TC_seq ?_
    refine TC_reg ?_
    refine TL_ev env 1 rfl ⟨trivial, trivial⟩ ?_
    refine TL_end ?_
    refine TE_go ?_
    refine TC_ret ?_
    refine tsr ?_
    obtain rfl := sinj h0
    exact TE_ret env rfl trivial trivial
  · replace h0 := bif_f h0 hb
    refine TC_skip ?_
    refine TE_go ?_
    refine TC_seq ?_
    refine TC_seq ?_
    refine TC_reg ?_
    refine TL_ev env 2 rfl ⟨trivial, ⟨trivial, trivial⟩⟩ ?_
    refine TL_end ?_
    refine TE_go ?_
    obtain ⟨z1, h1, h0⟩ := bnd h0
    refine TC_cut (α := Unit) (fun _ => z1 = .inl ()) (fun _ => [(4, .p 10300 0), (6, .bool ((p8 == 0) && ((p9 == 0) && ((p10 == 0) && ((p11 == 0) && (p12 == 0))))))]) (fun _ => [(10300, some (.cells [.int .i64 p8, .int .i64 p9, .int .i64 p10, .int .i64 p11, .int .i64 p12]))]) ?_ ?_
    · refine TC_cond rfl (fun hb => ?_) (fun hb => ?_)
      · replace h1 := bif_t h1 hb
        refine TC_seq ?_
        refine TC_seq ?_
        refine TC_reg ?_
        refine TL_ev env 58 rfl ⟨trivial, ⟨⟨trivial, trivial⟩, ⟨⟨trivial, ⟨trivial, trivial⟩⟩, ⟨trivial, ⟨fun eg => trivial, ⟨fun eg => ⟨fun e => e, trivial⟩, ⟨fun eg => ⟨fun e => e, ⟨trivial, trivial⟩⟩, ⟨⟨trivial, ⟨trivial, fun e => e⟩⟩, ⟨trivial, ⟨fun eg => trivial, ⟨fun eg => ⟨fun e => e, trivial⟩, ⟨fun eg => ⟨fun e => e, ⟨trivial, trivial⟩⟩, ⟨⟨trivial, ⟨trivial, fun e => e⟩⟩, ⟨trivial, ⟨fun eg => trivial, ⟨fun eg => ⟨fun e => e, trivial⟩, ⟨fun eg => ⟨fun e => e, ⟨trivial, trivial⟩⟩, ⟨⟨trivial, ⟨trivial, fun e => e⟩⟩, ⟨trivial, ⟨fun eg => trivial, ⟨fun eg => ⟨fun e => e, trivial⟩, ⟨fun eg => ⟨fun e => e, ⟨trivial, trivial⟩⟩, ⟨⟨trivial, ⟨trivial, fun e => e⟩⟩, ⟨trivial, ⟨fun eg => trivial, ⟨fun eg => ⟨fun e => e, trivial⟩, ⟨fun eg => ⟨fun e => e, ⟨trivial, trivial⟩⟩, ⟨⟨trivial, ⟨trivial, fun e => e⟩⟩, ⟨trivial, ⟨fun eg => trivial, ⟨fun eg => ⟨fun e => e, trivial⟩, ⟨fun eg => ⟨fun e => e, ⟨trivial, trivial⟩⟩, ⟨⟨trivial, ⟨trivial, fun e => e⟩⟩, ⟨trivial, ⟨fun eg => trivial, ⟨fun eg => ⟨fun e => e, trivial⟩, ⟨fun eg => ⟨fun e => e, ⟨trivial, trivial⟩⟩, ⟨⟨trivial, ⟨trivial, fun e => e⟩⟩, ⟨trivial, ⟨fun eg => trivial, ⟨fun eg => ⟨fun e => e, trivial⟩, ⟨fun eg => ⟨fun e => e, ⟨trivial, trivial⟩⟩, ⟨⟨trivial, ⟨trivial, fun e => e⟩⟩, ⟨trivial, ⟨fun eg => trivial, ⟨fun eg => ⟨fun e => e, trivial⟩, ⟨fun eg => ⟨fun e => e, ⟨trivial, trivial⟩⟩, ⟨⟨trivial, ⟨trivial, fun e => e⟩⟩, ⟨trivial, ⟨fun eg => trivial, ⟨fun eg => ⟨fun e => e, trivial⟩, ⟨fun eg => ⟨fun e => e, ⟨trivial, trivial⟩⟩, ⟨⟨trivial, ⟨trivial, fun e => e⟩⟩, ⟨trivial, ⟨fun eg => trivial, ⟨fun eg => ⟨fun e => e, trivial⟩, ⟨fun eg => ⟨fun e => e, ⟨trivial, trivial⟩⟩, ⟨⟨trivial, ⟨trivial, fun e => e⟩⟩, trivial⟩⟩⟩⟩⟩⟩⟩⟩⟩⟩⟩⟩⟩⟩⟩⟩⟩⟩⟩⟩⟩⟩⟩⟩⟩⟩⟩⟩⟩⟩⟩⟩⟩⟩⟩⟩⟩⟩⟩⟩⟩⟩⟩⟩⟩⟩⟩⟩⟩⟩⟩⟩⟩⟩⟩⟩⟩⟩ ?_
        refine TL_end ?_
        refine TE_go ?_
        refine TC_cond rfl (fun hb => ?_) (fun hb => ?_)
        · replace h1 := bif_t h1 hb
          refine TC_seq ?_
          refine TC_reg ?_
          refine TL_ev env 1 rfl ⟨trivial, trivial⟩ ?_
          refine TL_end ?_
          refine TE_go ?_
          refine TC_ret ?_
          refine tsr ?_
          refine tsr ?_
          refine tsr ?_
          obtain rfl := sinj h1
          obtain rfl := sinj h0
          exact TE_ret env rfl trivial trivial
        · replace h1 := bif_f h1 hb
          refine TC_skip ?_
          refine TE_go ?_
          refine TC_seq ?_
          refine TC_reg ?_
          refine TL_ev env 15 rfl ⟨trivial, ⟨⟨trivial, trivial⟩, ⟨⟨trivial, ⟨trivial, trivial⟩⟩, ⟨trivial, ⟨fun eg => trivial, ⟨fun eg => ⟨fun e => e, trivial⟩, ⟨fun eg => trivial, ⟨fun eg => ⟨fun e => e, trivial⟩, ⟨fun eg => ⟨fun e => e, ⟨fun e => e, trivial⟩⟩, ⟨⟨trivial, ⟨trivial, fun e => e⟩⟩, ⟨trivial, ⟨fun eg => trivial, ⟨fun eg => ⟨fun e => e, trivial⟩, ⟨fun eg => ⟨fun e => e, ⟨trivial, trivial⟩⟩, ⟨⟨trivial, ⟨trivial, fun e => e⟩⟩, trivial⟩⟩⟩⟩⟩⟩⟩⟩⟩⟩⟩⟩⟩⟩⟩ ?_
          refine TL_end ?_
          refine TE_go ?_
          refine TC_cond rfl (fun hb => ?_) (fun hb => ?_)
          · replace h1 := bif_t h1 hb
            refine TC_seq ?_
            refine TC_reg ?_
            refine TL_ev env 1 rfl ⟨trivial, trivial⟩ ?_
            refine TL_end ?_
            refine TE_go ?_
            refine TC_ret ?_
            refine tsr ?_
            refine tsr ?_
            obtain rfl := sinj h1
            obtain rfl := sinj h0
            exact TE_ret env rfl trivial trivial
          · replace h1 := bif_f h1 hb
            refine TC_skip ?_
            obtain rfl := sinj h1
            refine tsn ?_
            exact SP_ren [(10300, 1004)] () rfl ⟨rfl, rfl, trivial⟩ ⟨rfl, trivial⟩ rfl
      · replace h1 := bif_f h1 hb
        refine TC_skip ?_
        obtain rfl := sinj h1
        refine tsn ?_
        exact SP_ren [(10300, 1004)] () rfl ⟨rfl, rfl, trivial⟩ ⟨rfl, trivial⟩ rfl
    · rintro ⟨⟩ rfl
      refine TE_go ?_
      refine TC_seq ?_
      refine TC_seq ?_
      refine TC_reg ?_
      refine TL_ev env 2 rfl ⟨trivial, ⟨trivial, trivial⟩⟩ ?_
      refine TL_end ?_
      refine TE_go ?_
      obtain ⟨z1, h1, h0⟩ := bnd h0
      refine TC_cut (α := Unit) (fun _ => z1 = .inl ()) (fun _ => []) (fun _ => []) ?_ ?_
      · refine TC_cond rfl (fun hb => ?_) (fun hb => ?_)
        · replace h1 := bif_t h1 hb
          refine TC_seq ?_
          refine TC_seq ?_
          refine TC_reg ?_
          refine TL_ev env 28 rfl ⟨trivial, ⟨⟨trivial, trivial⟩, ⟨⟨trivial, ⟨trivial, trivial⟩⟩, ⟨trivial, ⟨fun eg => trivial, ⟨fun eg => ⟨fun e => e, trivial⟩, ⟨fun eg => ⟨fun e => e, ⟨trivial, trivial⟩⟩, ⟨⟨trivial, ⟨trivial, fun e => e⟩⟩, ⟨trivial, ⟨fun eg => trivial, ⟨fun eg => ⟨fun e => e, trivial⟩, ⟨fun eg => ⟨fun e => e, ⟨trivial, trivial⟩⟩, ⟨⟨trivial, ⟨trivial, fun e => e⟩⟩, ⟨trivial, ⟨fun eg => trivial, ⟨fun eg => ⟨fun e => e, trivial⟩, ⟨fun eg => ⟨fun e => e, ⟨trivial, trivial⟩⟩, ⟨⟨trivial, ⟨trivial, fun e => e⟩⟩, ⟨trivial, ⟨fun eg => trivial, ⟨fun eg => ⟨fun e => e, trivial⟩, ⟨fun eg => ⟨fun e => e, ⟨trivial, trivial⟩⟩, ⟨⟨trivial, ⟨trivial, fun e => e⟩⟩, ⟨trivial, ⟨fun eg => trivial, ⟨fun eg => ⟨fun e => e, trivial⟩, ⟨fun eg => ⟨fun e => e, ⟨trivial, trivial⟩⟩, ⟨⟨trivial, ⟨trivial, fun e => e⟩⟩, trivial⟩⟩⟩⟩⟩⟩⟩⟩⟩⟩⟩⟩⟩⟩⟩⟩⟩⟩⟩⟩⟩⟩⟩⟩⟩⟩⟩⟩ ?_
          refine TL_end ?_
          refine TE_go ?_
          refine TC_cond rfl (fun hb => ?_) (fun hb => ?_)
          · replace h1 := bif_t h1 hb
            refine TC_seq ?_
            refine TC_reg ?_
            refine TL_ev env 1 rfl ⟨trivial, trivial⟩ ?_
            refine TL_end ?_
            refine TE_go ?_
            refine TC_ret ?_
            refine tsr ?_
            refine tsr ?_
            refine tsr ?_
            obtain rfl := sinj h1
            obtain rfl := sinj h0
            exact TE_ret env rfl trivial trivial
          · replace h1 := bif_f h1 hb
            refine TC_skip ?_
            refine TE_go ?_
            refine TC_seq ?_
            refine TC_reg ?_
            refine TL_ev env 15 rfl ⟨trivial, ⟨⟨trivial, trivial⟩, ⟨⟨trivial, ⟨trivial, trivial⟩⟩, ⟨trivial, ⟨fun eg => trivial, ⟨fun eg => ⟨fun e => e, trivial⟩, ⟨fun eg => trivial, ⟨fun eg => ⟨fun e => e, trivial⟩, ⟨fun eg => ⟨fun e => e, ⟨fun e => e, trivial⟩⟩, ⟨⟨trivial, ⟨trivial, fun e => e⟩⟩, ⟨trivial, ⟨fun eg => trivial, ⟨fun eg => ⟨fun e => e, trivial⟩, ⟨fun eg => ⟨fun e => e, ⟨trivial, trivial⟩⟩, ⟨⟨trivial, ⟨trivial, fun e => e⟩⟩, trivial⟩⟩⟩⟩⟩⟩⟩⟩⟩⟩⟩⟩⟩⟩⟩ ?_
            refine TL_end ?_
            refine TE_go ?_
            refine TC_cond rfl (fun hb => ?_) (fun hb => ?_)
            · replace h1 := bif_t h1 hb
              refine TC_seq ?_
              refine TC_reg ?_
              refine TL_ev env 1 rfl ⟨trivial, trivial⟩ ?_
              refine TL_end ?_
              refine TE_go ?_
              refine TC_ret ?_
              refine tsr ?_
              refine tsr ?_
              obtain rfl := sinj h1
              obtain rfl := sinj h0
              exact TE_ret env rfl trivial trivial
            · replace h1 := bif_f h1 hb
              refine TC_skip ?_
              obtain rfl := sinj h1
              refine tsn ?_
              exact SP_ren [] () rfl trivial trivial rfl
        · replace h1 := bif_f h1 hb
          refine TC_skip ?_
          obtain rfl := sinj h1
          refine tsn ?_
          exact SP_ren [] () rfl trivial trivial rfl
      · rintro ⟨⟩ rfl
        refine TE_go ?_
        refine TC_seq ?_
        refine TC_reg ?_
        refine TL_ev env 1 rfl ⟨trivial, trivial⟩ ?_
        refine TL_end ?_
        refine TE_go ?_
        refine TC_ret ?_
        obtain rfl := sinj h0
        exact TE_ret env rfl trivial trivial
theorem psalteryref23_Check.ok0 {K : Nat} {p0 : Int} {p1 : Int} {p2 : Int} {p3 : Int} {p4 : Int} {p5 : Int} {p6 : Int} {p7 : Int} {p8 : Int} {p9 : Int} {p10 : Int} {p11 : Int} {p12 : Int} {p13 : Int} {p14 : Int} {q0 : Bool} (h0 : psalteryref23_Check K p0 p1 p2 p3 p4 p5 p6 p7 p8 p9 p10 p11 p12 p13 p14 = some q0) : Fn Try.prog 47 [.agg [.int .i64 p0, .int .i64 p1, .int .i64 p2, .int .i64 p3, .int .i64 p4, .int .i64 p5, .int .i64 p6, .int .i64 p7, .int .i64 p8, .int .i64 p9, .int .i64 p10, .int .i64 p11, .int .i64 p12, .int .i64 p13, .int .i64 p14]] [] (.bool q0) [] := psalteryref23_Check.ok h0
theorem psalteryref23_Check.fnb : fnb Try.prog 47 = true := fnb_of Try.func47 rfl
def psalterylaw23_Of.res (p0 : Int) (p1 : Int) (p2 : Int) (p3 : Int) (p4 : Int) (p5 : Int) (p6 : Int) (p7 : Int) (p8 : Int) (p9 : Int) (p10 : Int) (p11 : Int) (p12 : Int) (p13 : Int) (p14 : Int) : Unit → MV
  | () => .agg [.int .i64 p0, .int .i64 p1, .int .i64 p2, .int .i64 p3, .int .i64 p4, .int .i64 p5, .int .i64 p6, .int .i64 p7, .int .i64 p8, .int .i64 p9, .int .i64 p10, .int .i64 p11, .int .i64 p12, .int .i64 p13, .int .i64 p14]
def psalterylaw23_Of.out (_p0 : Int) (_p1 : Int) (_p2 : Int) (_p3 : Int) (_p4 : Int) (_p5 : Int) (_p6 : Int) (_p7 : Int) (_p8 : Int) (_p9 : Int) (_p10 : Int) (_p11 : Int) (_p12 : Int) (_p13 : Int) (_p14 : Int) : Unit → List (Nat × Option MObj)
  | () => []
theorem psalterylaw23_Of.ok {K : Nat} {p0 : Int} {p1 : Int} {p2 : Int} {p3 : Int} {p4 : Int} {p5 : Int} {p6 : Int} {p7 : Int} {p8 : Int} {p9 : Int} {p10 : Int} {p11 : Int} {p12 : Int} {p13 : Int} {p14 : Int} {r : Unit} (h0 : psalterylaw23_Of K p0 p1 p2 p3 p4 p5 p6 p7 p8 p9 p10 p11 p12 p13 p14 = some r) : Fn Try.prog 42 [.agg [.int .i64 p0, .int .i64 p1, .int .i64 p2, .int .i64 p3, .int .i64 p4, .int .i64 p5, .int .i64 p6, .int .i64 p7, .int .i64 p8, .int .i64 p9, .int .i64 p10, .int .i64 p11, .int .i64 p12, .int .i64 p13, .int .i64 p14]] [] (psalterylaw23_Of.res p0 p1 p2 p3 p4 p5 p6 p7 p8 p9 p10 p11 p12 p13 p14 r) (psalterylaw23_Of.out p0 p1 p2 p3 p4 p5 p6 p7 p8 p9 p10 p11 p12 p13 p14 r) := by
  refine Fn_of Try.func42 rfl (Nat.le_of_ble_eq_true rfl) fun Γ => ?_
  refine TC_seq ?_
  refine TC_reg ?_
  refine TL_ev env 2 rfl ⟨trivial, ⟨trivial, trivial⟩⟩ ?_
  refine TL_end ?_
  refine TE_go ?_
  refine TC_seq ?_
  refine TC_reg ?_
  refine TL_ev env 10 rfl ⟨trivial, ⟨⟨trivial, trivial⟩, ⟨trivial, ⟨⟨trivial, trivial⟩, ⟨trivial, ⟨⟨trivial, trivial⟩, ⟨trivial, ⟨⟨trivial, trivial⟩, ⟨⟨trivial, ⟨trivial, ⟨trivial, ⟨trivial, trivial⟩⟩⟩⟩, ⟨⟨trivial, trivial⟩, trivial⟩⟩⟩⟩⟩⟩⟩⟩⟩⟩ ?_
  refine TL_end ?_
  refine TE_go ?_
  refine TC_ret ?_
  obtain rfl := sinj h0
  exact TE_ret env rfl ⟨trivial, trivial⟩ trivial
theorem psalterylaw23_Of.ok0 {K : Nat} {p0 : Int} {p1 : Int} {p2 : Int} {p3 : Int} {p4 : Int} {p5 : Int} {p6 : Int} {p7 : Int} {p8 : Int} {p9 : Int} {p10 : Int} {p11 : Int} {p12 : Int} {p13 : Int} {p14 : Int}  (h0 : psalterylaw23_Of K p0 p1 p2 p3 p4 p5 p6 p7 p8 p9 p10 p11 p12 p13 p14 = some ()) : Fn Try.prog 42 [.agg [.int .i64 p0, .int .i64 p1, .int .i64 p2, .int .i64 p3, .int .i64 p4, .int .i64 p5, .int .i64 p6, .int .i64 p7, .int .i64 p8, .int .i64 p9, .int .i64 p10, .int .i64 p11, .int .i64 p12, .int .i64 p13, .int .i64 p14]] [] (.agg [.int .i64 p0, .int .i64 p1, .int .i64 p2, .int .i64 p3, .int .i64 p4, .int .i64 p5, .int .i64 p6, .int .i64 p7, .int .i64 p8, .int .i64 p9, .int .i64 p10, .int .i64 p11, .int .i64 p12, .int .i64 p13, .int .i64 p14]) [] := psalterylaw23_Of.ok h0
theorem psalterylaw23_Of.fnb : fnb Try.prog 42 = true := fnb_of Try.func42 rfl
end Go.Fo
