/- Each call comes to the function that is written for it. -/
import Derived.Test.YtphienllhdoenaaPfT
import Derived.Test.YtphienllhdoenaaPfF
import Derived.Test.YtphienllhdoenaaBx
import Derived.Test.YtphienllhdoenaaPfP0
namespace Go.Fo
open Go.Proofs
set_option maxRecDepth 20000
set_option maxHeartbeats 4000000
def psalterylaw08_PolyForgets.res (_p0 : Bool) (_p1 : List (Int)) (_p2 : List (Int)) : Bool → MV
  | q0 => .bool q0
def psalterylaw08_PolyForgets.out (_p0 : Bool) (_p1 : List (Int)) (_p2 : List (Int)) : Bool → List (Nat × Option MObj)
  | _ => []
theorem psalterylaw08_PolyForgets.ok {K : Nat} {p0 : Bool} {p1 : List (Int)} {p2 : List (Int)} {r : Bool} (h0 : psalterylaw08_PolyForgets K p0 p1 p2 = some r) : Fn Try.prog 6 [.bool p0, .im (.slice (.int .i16)) p1, .im (.slice (.int .i16)) p2] [] (psalterylaw08_PolyForgets.res p0 p1 p2 r) (psalterylaw08_PolyForgets.out p0 p1 p2 r) := by
  refine Fn_of Try.func6 rfl (Nat.le_of_ble_eq_true rfl) fun Γ => ?_
  refine TC_seq ?_
  refine TC_reg ?_
  refine TL_ev env 1 rfl ⟨trivial, trivial⟩ ?_
  refine TL_end ?_
  refine TE_go ?_
  refine TC_seq ?_
  refine TC_seq ?_
  refine TC_reg ?_
  obtain ⟨r169, hr, h0⟩ := bnd h0
  refine TL_callB [] (psalterylaw08_alive.ok0 hr) psalterylaw08_alive.fnb rfl ⟨trivial, trivial⟩ rfl trivial rfl ?_
  refine TL_ev env 1 rfl ⟨trivial, trivial⟩ ?_
  refine TL_end ?_
  refine TE_go ?_
  refine TC_cond rfl (fun hb => ?_) (fun hb => ?_)
  · replace h0 := bif_t h0 hb
    refine TC_seq ?_
    refine TC_reg ?_
    refine TL_ev env 1 rfl ⟨trivial, trivial⟩ ?_
    refine TL_end ?_
    refine TE_go ?_
    refine TC_ret ?_
    refine tsr ?_
    obtain rfl := sinj h0
    exact TE_ret env rfl trivial trivial
  · replace h0 := bif_f h0 hb
    refine TC_skip ?_
    refine TE_go ?_
    refine TC_seq ?_
    refine TC_seq ?_
    refine TC_reg ?_
    refine TL_ev env 8 rfl ⟨trivial, ⟨⟨trivial, trivial⟩, ⟨⟨trivial, ⟨trivial, trivial⟩⟩, ⟨trivial, ⟨fun eg => trivial, ⟨fun eg => ⟨fun e => e, trivial⟩, ⟨fun eg => ⟨fun e => e, ⟨trivial, trivial⟩⟩, ⟨⟨trivial, ⟨trivial, fun e => e⟩⟩, trivial⟩⟩⟩⟩⟩⟩⟩⟩ ?_
    refine TL_end ?_
    refine TE_go ?_
    refine TC_cond rfl (fun hb => ?_) (fun hb => ?_)
    · replace h0 := bif_t h0 hb
      refine TC_seq ?_
      refine TC_reg ?_
      refine TL_ev env 1 rfl ⟨trivial, trivial⟩ ?_
      refine TL_end ?_
      refine TE_go ?_
      refine TC_ret ?_
      refine tsr ?_
      obtain rfl := sinj h0
      exact TE_ret env rfl trivial trivial
    · replace h0 := bif_f h0 hb
      refine TC_skip ?_
      refine TE_go ?_
      refine TC_seq ?_
      refine TC_reg ?_
      refine TL_ev env 1 rfl ⟨trivial, trivial⟩ ?_
      refine TL_end ?_
      refine TE_go ?_
      refine TC_seq ?_
      refine TC_seq ?_
      refine TC_reg ?_
      refine TL_ev env 1 rfl ⟨trivial, trivial⟩ ?_
      refine TL_end ?_
      refine TE_go ?_
      obtain ⟨z1, h1, h0⟩ := bnd h0
      refine TC_cut (α := Int) (fun s => z1 = s) (fun s => [(1, .im (.slice (.int .i16)) p1), (2, .im (.slice (.int .i16)) p2), (7, .int .i64 s)]) (fun s => []) ?_ ?_
      · refine TC_cond rfl (fun hb => ?_) (fun hb => ?_)
        · replace h1 := bif_t h1 hb
          refine TC_reg ?_
          refine TL_ev env 1 rfl ⟨trivial, trivial⟩ ?_
          refine TL_end ?_
          obtain rfl := sinj h1
          refine tsn ?_
          exact SP_ren [] _ rfl ⟨rfl, rfl, rfl, trivial⟩ trivial rfl
        · replace h1 := bif_f h1 hb
          refine TC_skip ?_
          obtain rfl := sinj h1
          refine tsn ?_
          exact SP_ren [] _ rfl ⟨rfl, rfl, rfl, trivial⟩ trivial rfl
      · rintro x173 hz
        obtain rfl := hz.symm
        refine TE_go ?_
        refine TC_seq ?_
        refine TC_reg ?_
        obtain ⟨⟨⟩, hr, h0⟩ := bnd h0
        refine TL_callB [(1000, 500470)] (bank_New.ok0 hr) bank_New.fnb rfl ⟨trivial, trivial⟩ rfl trivial rfl ?_
        refine TL_ev env 1 rfl ⟨trivial, trivial⟩ ?_
        obtain ⟨z, hr, h0⟩ := bnd h0
        rcases z with ⟨r174, r175, r176⟩ | ⟨r177, r178, r179, r180, r181, r182⟩
        · exact (nsome h0).elim
        · refine TL_callB [(0, 500470), (1000, 500490), (1001, 500491)] (poly_NewSplitter.ok1 hr) poly_NewSplitter.fnb rfl ⟨trivial, ⟨trivial, ⟨trivial, trivial⟩⟩⟩ rfl ⟨.inr rfl, trivial⟩ rfl ?_
          refine TL_ev env 5 rfl ⟨trivial, ⟨trivial, ⟨trivial, ⟨trivial, ⟨trivial, trivial⟩⟩⟩⟩⟩ ?_
          refine TL_end ?_
          refine TE_go ?_
          refine TC_seq ?_
          refine TC_reg ?_
          obtain ⟨⟨⟩, hr, h0⟩ := bnd h0
          refine TL_callB [(1000, 500530)] (bank_New.ok0 hr) bank_New.fnb rfl ⟨trivial, trivial⟩ rfl trivial rfl ?_
          refine TL_ev env 1 rfl ⟨trivial, trivial⟩ ?_
          obtain ⟨z, hr, h0⟩ := bnd h0
          rcases z with ⟨r183, r184, r185⟩ | ⟨r186, r187, r188, r189, r190, r191⟩
          · exact (nsome h0).elim
          · refine TL_callB [(0, 500530), (1000, 500550), (1001, 500551)] (poly_NewSplitter.ok1 hr) poly_NewSplitter.fnb rfl ⟨trivial, ⟨trivial, ⟨trivial, trivial⟩⟩⟩ rfl ⟨.inr rfl, trivial⟩ rfl ?_
            refine TL_ev env 5 rfl ⟨trivial, ⟨trivial, ⟨trivial, ⟨trivial, ⟨trivial, trivial⟩⟩⟩⟩⟩ ?_
            refine TL_end ?_
            refine TE_go ?_
            refine TC_seq ?_
            refine TC_reg ?_
            obtain ⟨⟨⟩, hr, h0⟩ := bnd h0
            refine TL_callB [(1000, 500590)] (bank_New.ok0 hr) bank_New.fnb rfl ⟨trivial, trivial⟩ rfl trivial rfl ?_
            refine TL_ev env 1 rfl ⟨trivial, trivial⟩ ?_
            obtain ⟨z, hr, h0⟩ := bnd h0
            rcases z with ⟨r192, r193, r194⟩ | ⟨r195, r196, r197, r198, r199, r200⟩
            · exact (nsome h0).elim
            · refine TL_callB [(0, 500590), (1000, 500610), (1001, 500611)] (poly_NewJoiner.ok1 hr) poly_NewJoiner.fnb rfl ⟨trivial, ⟨trivial, ⟨trivial, trivial⟩⟩⟩ rfl ⟨.inr rfl, trivial⟩ rfl ?_
              refine TL_ev env 5 rfl ⟨trivial, ⟨trivial, ⟨trivial, ⟨trivial, ⟨trivial, trivial⟩⟩⟩⟩⟩ ?_
              refine TL_end ?_
              refine TE_go ?_
              refine TC_seq ?_
              refine TC_reg ?_
              obtain ⟨⟨⟩, hr, h0⟩ := bnd h0
              refine TL_callB [(1000, 500650)] (bank_New.ok0 hr) bank_New.fnb rfl ⟨trivial, trivial⟩ rfl trivial rfl ?_
              refine TL_ev env 1 rfl ⟨trivial, trivial⟩ ?_
              obtain ⟨z, hr, h0⟩ := bnd h0
              rcases z with ⟨r201, r202, r203⟩ | ⟨r204, r205, r206, r207, r208, r209⟩
              · exact (nsome h0).elim
              · refine TL_callB [(0, 500650), (1000, 500670), (1001, 500671)] (poly_NewJoiner.ok1 hr) poly_NewJoiner.fnb rfl ⟨trivial, ⟨trivial, ⟨trivial, trivial⟩⟩⟩ rfl ⟨.inr rfl, trivial⟩ rfl ?_
                refine TL_ev env 5 rfl ⟨trivial, ⟨trivial, ⟨trivial, ⟨trivial, ⟨trivial, trivial⟩⟩⟩⟩⟩ ?_
                refine TL_end ?_
                refine TE_go ?_
                refine TC_seq ?_
                refine TC_seq ?_
                refine TC_reg ?_
                refine TL_ev env 2 rfl ⟨trivial, ⟨trivial, trivial⟩⟩ ?_
                obtain ⟨r210, hr, h0⟩ := bnd h0
                refine TL_callB [] (psalterylaw08_cut_int16.ok0 hr) psalterylaw08_cut_int16.fnb rfl ⟨trivial, ⟨trivial, ⟨trivial, trivial⟩⟩⟩ rfl trivial rfl ?_
                refine TL_ev env 2 rfl ⟨⟨trivial, trivial⟩, ⟨trivial, trivial⟩⟩ ?_
                refine TL_end ?_
                refine TE_go ?_
                obtain ⟨z1, h1, h0⟩ := bnd h0
                refine TC_cut (α := (List (Int)) × (List (Int))) (fun s => z1 = s) (fun s => [(1, .im (.slice (.int .i16)) p1), (2, .im (.slice (.int .i16)) p2), (7, .int .i64 x173), (8, .p 13300 0), (10, .p 13301 0), (12, .p 13302 0), (14, .p 13303 0)]) (fun s => [(13300, some (.cells [.int .i64 x173, .im (.slice (.int .i16)) r180, .im (.slice (.int .i16)) r181, .sl 13304])), (13301, some (.cells [.int .i64 x173, .im (.slice (.int .i16)) r189, .im (.slice (.int .i16)) r190, .sl 13305])), (13302, some (.cells [.int .i64 x173, .im (.slice (.int .i16)) r198, .im (.slice (.int .i16)) r199, .sl 13306])), (13303, some (.cells [.int .i64 x173, .im (.slice (.int .i16)) r207, .im (.slice (.int .i16)) r208, .sl 13307])), (13304, some (.rows (.int .i64) s.1)), (13305, some (.rows (.int .i64) r191)), (13306, some (.rows (.int .i64) s.2)), (13307, some (.rows (.int .i64) r209))]) ?_ ?_
                · refine TC_blk ?_
                  refine TC_loop (α := Int × (List (Int)) × (List (Int))) (fun n s => psalterylaw08_PolyForgets.l2 K p1 p2 x173 r210 (r210.length : Int) r180 r181 r189 r190 r198 r199 r207 r208 r191 r209 n s.1 s.2.1 s.2.2 = some z1) (fun s => [(1, .im (.slice (.int .i16)) p1), (2, .im (.slice (.int .i16)) p2), (7, .int .i64 x173), (8, .p 18400 0), (10, .p 18401 0), (12, .p 18402 0), (14, .p 18403 0), (72, .im (.slice (.slice (.int .i16))) r210), (73, .int .i64 (r210.length : Int)), (74, .int .i64 s.1)]) (fun s => [(18400, some (.cells [.int .i64 x173, .im (.slice (.int .i16)) r180, .im (.slice (.int .i16)) r181, .sl 18404])), (18401, some (.cells [.int .i64 x173, .im (.slice (.int .i16)) r189, .im (.slice (.int .i16)) r190, .sl 18405])), (18402, some (.cells [.int .i64 x173, .im (.slice (.int .i16)) r198, .im (.slice (.int .i16)) r199, .sl 18406])), (18403, some (.cells [.int .i64 x173, .im (.slice (.int .i16)) r207, .im (.slice (.int .i16)) r208, .sl 18407])), (18404, some (.rows (.int .i64) s.2.1)), (18405, some (.rows (.int .i64) r191)), (18406, some (.rows (.int .i64) s.2.2)), (18407, some (.rows (.int .i64) r209))]) K ?_ ?_
                  · exact SP_ren [(18400, 500490), (18401, 500550), (18402, 500610), (18403, 500670), (18404, 500491), (18405, 500551), (18406, 500611), (18407, 500671)] (_, _, _) h1 ⟨rfl, rfl, rfl, rfl, rfl, rfl, rfl, rfl, rfl, rfl, trivial⟩ ⟨rfl, rfl, rfl, rfl, rfl, rfl, rfl, rfl, trivial⟩ rfl
                  rintro n ⟨x557, x558, x559⟩ h1
                  rcases n with _ | n
                  · exact (nsome h1).elim
                  replace h1 : psalterylaw08_PolyForgets.r2 K p1 p2 x173 r210 (r210.length : Int) r180 r181 r189 r190 r198 r199 r207 r208 r191 r209 (psalterylaw08_PolyForgets.l2 K p1 p2 x173 r210 (r210.length : Int) r180 r181 r189 r190 r198 r199 r207 r208 r191 r209 n) x557 x558 x559 = some z1 := h1
                  refine TC_seq ?_
                  refine TC_reg ?_
                  refine TL_ev env 1 rfl ⟨⟨trivial, ⟨trivial, trivial⟩⟩, trivial⟩ ?_
                  refine TL_end ?_
                  refine TE_go ?_
                  refine TC_seq ?_
                  refine TC_cond rfl (fun hb => ?_) (fun hb => ?_)
                  · replace h1 := bif_t h1 hb
                    refine TC_skip ?_
                    refine TE_go ?_
                    refine TC_seq ?_
                    obtain ⟨z2, h2, h1⟩ := bnd h1
                    refine TC_cut (α := (List (Int)) × (List (Int))) (fun s => z2 = s) (fun s => [(1, .im (.slice (.int .i16)) p1), (2, .im (.slice (.int .i16)) p2), (7, .int .i64 x173), (8, .p 18700 0), (10, .p 18701 0), (12, .p 18702 0), (14, .p 18703 0), (72, .im (.slice (.slice (.int .i16))) r210), (73, .int .i64 (r210.length : Int)), (74, .int .i64 x557)]) (fun s => [(18700, some (.cells [.int .i64 x173, .im (.slice (.int .i16)) r180, .im (.slice (.int .i16)) r181, .sl 18704])), (18701, some (.cells [.int .i64 x173, .im (.slice (.int .i16)) r189, .im (.slice (.int .i16)) r190, .sl 18705])), (18702, some (.cells [.int .i64 x173, .im (.slice (.int .i16)) r198, .im (.slice (.int .i16)) r199, .sl 18706])), (18703, some (.cells [.int .i64 x173, .im (.slice (.int .i16)) r207, .im (.slice (.int .i16)) r208, .sl 18707])), (18704, some (.rows (.int .i64) s.1)), (18705, some (.rows (.int .i64) r191)), (18706, some (.rows (.int .i64) s.2)), (18707, some (.rows (.int .i64) r209))]) ?_ ?_
                    · refine TC_blk ?_
                      refine TC_seq ?_
                      refine TC_reg ?_
                      obtain ⟨g, h2⟩ := gd_t h2
                      refine TL_ev env 3 rfl ⟨⟨trivial, ⟨trivial, ⟨g.1, g.2⟩⟩⟩, ⟨⟨trivial, trivial⟩, ⟨trivial, trivial⟩⟩⟩ ?_
                      refine TL_end ?_
                      refine TE_go ?_
                      refine TC_seq ?_
                      refine TC_reg ?_
                      refine TL_ev env 2 rfl ⟨trivial, ⟨trivial, trivial⟩⟩ ?_
                      obtain ⟨z, hr, h2⟩ := bnd h2
                      rcases z with ⟨⟩ | ⟨r582, r583⟩
                      · refine TL_callB [(0, 18400), (1, 18404)] (poly_Splitter_Feed.ok0 hr) poly_Splitter_Feed.fnb rfl ⟨trivial, ⟨trivial, ⟨trivial, trivial⟩⟩⟩ rfl ⟨.inr rfl, .inr rfl, trivial⟩ rfl ?_
                        refine TL_ev env 5 rfl ⟨trivial, ⟨trivial, ⟨trivial, ⟨trivial, ⟨trivial, trivial⟩⟩⟩⟩⟩ ?_
                        refine TL_end ?_
                        refine TE_go ?_
                        refine TC_reg ?_
                        refine TL_ev env 2 rfl ⟨trivial, ⟨trivial, trivial⟩⟩ ?_
                        obtain ⟨z, hr, h2⟩ := bnd h2
                        rcases z with ⟨⟩ | ⟨r584, r585⟩
                        · refine TL_callB [(0, 18402), (1, 18406)] (poly_Joiner_Feed.ok0 hr) poly_Joiner_Feed.fnb rfl ⟨trivial, ⟨trivial, ⟨trivial, trivial⟩⟩⟩ rfl ⟨.inr rfl, .inr rfl, trivial⟩ rfl ?_
                          refine TL_end ?_
                          refine tbn ?_
                          obtain rfl := sinj h2
                          refine tsn ?_
                          exact SP_ren [(18700, 18400), (18701, 18401), (18702, 18402), (18703, 18403), (18704, 18404), (18705, 18405), (18706, 18406), (18707, 18407)] (_, _) rfl ⟨rfl, rfl, rfl, rfl, rfl, rfl, rfl, rfl, rfl, rfl, trivial⟩ ⟨rfl, rfl, rfl, rfl, rfl, rfl, rfl, rfl, trivial⟩ rfl
                        · refine TL_callB [(0, 18402), (1, 18406)] (poly_Joiner_Feed.ok1 hr) poly_Joiner_Feed.fnb rfl ⟨trivial, ⟨trivial, ⟨trivial, trivial⟩⟩⟩ rfl ⟨.inr rfl, .inr rfl, trivial⟩ rfl ?_
                          refine TL_end ?_
                          refine tbn ?_
                          obtain rfl := sinj h2
                          refine tsn ?_
                          exact SP_ren [(18700, 18400), (18701, 18401), (18702, 18402), (18703, 18403), (18704, 18404), (18705, 18405), (18706, 18406), (18707, 18407)] (_, _) rfl ⟨rfl, rfl, rfl, rfl, rfl, rfl, rfl, rfl, rfl, rfl, trivial⟩ ⟨rfl, rfl, rfl, rfl, rfl, rfl, rfl, rfl, trivial⟩ rfl
                      · refine TL_callB [(0, 18400), (1, 18404)] (poly_Splitter_Feed.ok1 hr) poly_Splitter_Feed.fnb rfl ⟨trivial, ⟨trivial, ⟨trivial, trivial⟩⟩⟩ rfl ⟨.inr rfl, .inr rfl, trivial⟩ rfl ?_
                        refine TL_ev env 5 rfl ⟨trivial, ⟨trivial, ⟨trivial, ⟨trivial, ⟨trivial, trivial⟩⟩⟩⟩⟩ ?_
                        refine TL_end ?_
                        refine TE_go ?_
                        refine TC_reg ?_
                        refine TL_ev env 2 rfl ⟨trivial, ⟨trivial, trivial⟩⟩ ?_
                        obtain ⟨z, hr, h2⟩ := bnd h2
                        rcases z with ⟨⟩ | ⟨r586, r587⟩
                        · refine TL_callB [(0, 18402), (1, 18406)] (poly_Joiner_Feed_2.ok0 hr) poly_Joiner_Feed_2.fnb rfl ⟨trivial, ⟨trivial, ⟨trivial, trivial⟩⟩⟩ rfl ⟨.inr rfl, .inr rfl, trivial⟩ rfl ?_
                          refine TL_end ?_
                          refine tbn ?_
                          obtain rfl := sinj h2
                          refine tsn ?_
                          exact SP_ren [(18700, 18400), (18701, 18401), (18702, 18402), (18703, 18403), (18704, 18404), (18705, 18405), (18706, 18406), (18707, 18407)] (_, _) rfl ⟨rfl, rfl, rfl, rfl, rfl, rfl, rfl, rfl, rfl, rfl, trivial⟩ ⟨rfl, rfl, rfl, rfl, rfl, rfl, rfl, rfl, trivial⟩ rfl
                        · refine TL_callB [(0, 18402), (1, 18406)] (poly_Joiner_Feed_2.ok1 hr) poly_Joiner_Feed_2.fnb rfl ⟨trivial, ⟨trivial, ⟨trivial, trivial⟩⟩⟩ rfl ⟨.inr rfl, .inr rfl, trivial⟩ rfl ?_
                          refine TL_end ?_
                          refine tbn ?_
                          obtain rfl := sinj h2
                          refine tsn ?_
                          exact SP_ren [(18700, 18400), (18701, 18401), (18702, 18402), (18703, 18403), (18704, 18404), (18705, 18405), (18706, 18406), (18707, 18407)] (_, _) rfl ⟨rfl, rfl, rfl, rfl, rfl, rfl, rfl, rfl, rfl, rfl, trivial⟩ ⟨rfl, rfl, rfl, rfl, rfl, rfl, rfl, rfl, trivial⟩ rfl
                    · rintro ⟨x578, x579⟩ rfl
                      refine TE_go ?_
                      refine TC_reg ?_
                      refine TL_ev env 2 rfl ⟨⟨trivial, ⟨trivial, trivial⟩⟩, ⟨trivial, trivial⟩⟩ ?_
                      refine TL_end ?_
                      refine tsn ?_
                      exact TE_nextr [(18400, 18700), (18401, 18701), (18402, 18702), (18403, 18703), (18404, 18704), (18405, 18705), (18406, 18706), (18407, 18707)] n (Nat.lt_succ_self n) (_, _, _) h1 ⟨rfl, rfl, rfl, rfl, rfl, rfl, rfl, rfl, rfl, rfl, trivial⟩ ⟨rfl, rfl, rfl, rfl, rfl, rfl, rfl, rfl, trivial⟩ rfl
                  · replace h1 := bif_f h1 hb
                    refine TC_exit ?_
                    refine tsx ?_
                    refine tsx ?_
                    refine tbe ?_
                    obtain rfl := sinj h1
                    refine tsn ?_
                    exact SP_ren [(13300, 18400), (13301, 18401), (13302, 18402), (13303, 18403), (13304, 18404), (13305, 18405), (13306, 18406), (13307, 18407)] (_, _) rfl ⟨rfl, rfl, rfl, rfl, rfl, rfl, rfl, trivial⟩ ⟨rfl, rfl, rfl, rfl, rfl, rfl, rfl, rfl, trivial⟩ rfl
                · rintro ⟨x233, x234⟩ rfl
                  refine TE_go ?_
                  refine TC_seq ?_
                  refine TC_seq ?_
                  refine TC_reg ?_
                  refine TL_ev env 4 rfl ⟨trivial, ⟨⟨trivial, trivial⟩, ⟨⟨trivial, ⟨trivial, (by decide)⟩⟩, ⟨⟨trivial, ⟨trivial, trivial⟩⟩, trivial⟩⟩⟩⟩ ?_
                  refine TL_end ?_
                  refine TE_go ?_
                  obtain ⟨z1, h1, h0⟩ := bnd h0
                  refine TC_cut (α := (List (Int)) × (List (Int))) (fun s => z1 = .inl s) (fun s => [(2, .im (.slice (.int .i16)) p2), (7, .int .i64 x173), (8, .p 13800 0), (10, .p 13801 0), (12, .p 13802 0), (14, .p 13803 0)]) (fun s => [(13800, some (.cells [.int .i64 x173, .im (.slice (.int .i16)) r180, .im (.slice (.int .i16)) r181, .sl 13804])), (13801, some (.cells [.int .i64 x173, .im (.slice (.int .i16)) r189, .im (.slice (.int .i16)) r190, .sl 13805])), (13802, some (.cells [.int .i64 x173, .im (.slice (.int .i16)) r198, .im (.slice (.int .i16)) r199, .sl 13806])), (13803, some (.cells [.int .i64 x173, .im (.slice (.int .i16)) r207, .im (.slice (.int .i16)) r208, .sl 13807])), (13804, some (.rows (.int .i64) s.1)), (13805, some (.rows (.int .i64) r191)), (13806, some (.rows (.int .i64) s.2)), (13807, some (.rows (.int .i64) r209))]) ?_ ?_
                  · refine TC_cond rfl (fun hb => ?_) (fun hb => ?_)
                    · replace h1 := bif_t h1 hb
                      refine TC_seq ?_
                      refine TC_reg ?_
                      refine TL_ev env 1 rfl ⟨trivial, trivial⟩ ?_
                      obtain ⟨r467, hr, h1⟩ := bnd h1
                      refine TL_callB [(0, 13300), (1, 13304)] (poly_Splitter_Reset.ok0 hr) poly_Splitter_Reset.fnb rfl ⟨trivial, ⟨trivial, trivial⟩⟩ rfl ⟨.inr rfl, .inr rfl, trivial⟩ rfl ?_
                      refine TL_end ?_
                      refine TE_go ?_
                      refine TC_reg ?_
                      refine TL_ev env 1 rfl ⟨trivial, trivial⟩ ?_
                      obtain ⟨r468, hr, h1⟩ := bnd h1
                      refine TL_callB [(0, 13302), (1, 13306)] (poly_Joiner_Reset.ok0 hr) poly_Joiner_Reset.fnb rfl ⟨trivial, ⟨trivial, trivial⟩⟩ rfl ⟨.inr rfl, .inr rfl, trivial⟩ rfl ?_
                      refine TL_end ?_
                      obtain rfl := sinj h1
                      refine tsn ?_
                      exact SP_ren [(13800, 13300), (13801, 13301), (13802, 13302), (13803, 13303), (13804, 13304), (13805, 13305), (13806, 13306), (13807, 13307)] (_, _) rfl ⟨rfl, rfl, rfl, rfl, rfl, rfl, trivial⟩ ⟨rfl, rfl, rfl, rfl, rfl, rfl, rfl, rfl, trivial⟩ rfl
                    · replace h1 := bif_f h1 hb
                      refine TC_seq ?_
                      refine TC_reg ?_
                      refine TL_ev env 1 rfl ⟨trivial, trivial⟩ ?_
                      refine TL_end ?_
                      refine TE_go ?_
                      obtain ⟨z2, h2, h1⟩ := bnd h1
                      refine TC_cut (α := (List (Int)) × (List (Int))) (fun s => z2 = .inl s) (fun s => [(2, .im (.slice (.int .i16)) p2), (7, .int .i64 x173), (8, .p 17800 0), (10, .p 17801 0), (12, .p 17802 0), (14, .p 17803 0)]) (fun s => [(17800, some (.cells [.int .i64 x173, .im (.slice (.int .i16)) r180, .im (.slice (.int .i16)) r181, .sl 17804])), (17801, some (.cells [.int .i64 x173, .im (.slice (.int .i16)) r189, .im (.slice (.int .i16)) r190, .sl 17805])), (17802, some (.cells [.int .i64 x173, .im (.slice (.int .i16)) r198, .im (.slice (.int .i16)) r199, .sl 17806])), (17803, some (.cells [.int .i64 x173, .im (.slice (.int .i16)) r207, .im (.slice (.int .i16)) r208, .sl 17807])), (17804, some (.rows (.int .i64) s.1)), (17805, some (.rows (.int .i64) r191)), (17806, some (.rows (.int .i64) s.2)), (17807, some (.rows (.int .i64) r209))]) ?_ ?_
                      · refine TC_blk ?_
                        refine TC_loop (α := Int × (List (Int)) × (List (Int))) (fun n s => psalterylaw08_PolyForgets.l1 K p2 x173 r180 r181 r189 r190 r198 r199 r207 r208 r191 r209 n s.1 s.2.1 s.2.2 = some z2) (fun s => [(2, .im (.slice (.int .i16)) p2), (7, .int .i64 x173), (8, .p 18000 0), (10, .p 18001 0), (12, .p 18002 0), (14, .p 18003 0), (20, .int .i64 s.1)]) (fun s => [(18000, some (.cells [.int .i64 x173, .im (.slice (.int .i16)) r180, .im (.slice (.int .i16)) r181, .sl 18004])), (18001, some (.cells [.int .i64 x173, .im (.slice (.int .i16)) r189, .im (.slice (.int .i16)) r190, .sl 18005])), (18002, some (.cells [.int .i64 x173, .im (.slice (.int .i16)) r198, .im (.slice (.int .i16)) r199, .sl 18006])), (18003, some (.cells [.int .i64 x173, .im (.slice (.int .i16)) r207, .im (.slice (.int .i16)) r208, .sl 18007])), (18004, some (.rows (.int .i64) s.2.1)), (18005, some (.rows (.int .i64) r191)), (18006, some (.rows (.int .i64) s.2.2)), (18007, some (.rows (.int .i64) r209))]) K ?_ ?_
                        · exact SP_ren [(18000, 13300), (18001, 13301), (18002, 13302), (18003, 13303), (18004, 13304), (18005, 13305), (18006, 13306), (18007, 13307)] (_, _, _) h2 ⟨rfl, rfl, rfl, rfl, rfl, rfl, rfl, trivial⟩ ⟨rfl, rfl, rfl, rfl, rfl, rfl, rfl, rfl, trivial⟩ rfl
                        rintro n ⟨x513, x514, x515⟩ h2
                        rcases n with _ | n
                        · exact (nsome h2).elim
                        replace h2 : psalterylaw08_PolyForgets.r1 K p2 x173 r180 r181 r189 r190 r198 r199 r207 r208 r191 r209 (psalterylaw08_PolyForgets.l1 K p2 x173 r180 r181 r189 r190 r198 r199 r207 r208 r191 r209 n) x513 x514 x515 = some z2 := h2
                        refine TC_seq ?_
                        refine TC_seq ?_
                        refine TC_reg ?_
                        refine TL_ev env 2 rfl ⟨trivial, ⟨⟨trivial, ⟨trivial, trivial⟩⟩, trivial⟩⟩ ?_
                        refine TL_end ?_
                        refine TE_go ?_
                        refine TC_cond rfl (fun hb => ?_) (fun hb => ?_)
                        · replace h2 := bif_t h2 hb
                          refine TC_skip ?_
                          refine TE_go ?_
                          refine TC_seq ?_
                          refine TC_blk ?_
                          refine TC_seq ?_
                          refine TC_reg ?_
                          obtain ⟨g, h2⟩ := gd_t h2
                          refine TL_ev env 3 rfl ⟨trivial, ⟨trivial, ⟨⟨trivial, ⟨trivial, ⟨g.1, ⟨g.2.1, g.2.2⟩⟩⟩⟩, trivial⟩⟩⟩ ?_
                          refine TL_frz 1103 rfl ?_
                          obtain ⟨z, hr, h2⟩ := bnd h2
                          rcases z with ⟨⟩ | ⟨r539, r540⟩
                          · refine TL_callB [(0, 18000), (1, 18004)] (poly_Splitter_Feed.ok0 hr) poly_Splitter_Feed.fnb rfl ⟨trivial, ⟨trivial, ⟨trivial, trivial⟩⟩⟩ rfl ⟨.inr rfl, .inr rfl, trivial⟩ rfl ?_
                            refine TL_ev env 5 rfl ⟨trivial, ⟨trivial, ⟨trivial, ⟨trivial, ⟨trivial, trivial⟩⟩⟩⟩⟩ ?_
                            refine TL_end ?_
                            refine TE_go ?_
                            refine TC_seq ?_
                            refine TC_reg ?_
                            obtain ⟨g, h2⟩ := gd_t h2
                            refine TL_ev env 3 rfl ⟨trivial, ⟨trivial, ⟨⟨trivial, ⟨trivial, ⟨g.1, ⟨g.2.1, g.2.2⟩⟩⟩⟩, trivial⟩⟩⟩ ?_
                            refine TL_frz 1110 rfl ?_
                            obtain ⟨z, hr, h2⟩ := bnd h2
                            rcases z with ⟨⟩ | ⟨r541, r542⟩
                            · refine TL_callB [(0, 18002), (1, 18006)] (poly_Joiner_Feed_2.ok0 hr) poly_Joiner_Feed_2.fnb rfl ⟨trivial, ⟨trivial, ⟨trivial, trivial⟩⟩⟩ rfl ⟨.inr rfl, .inr rfl, trivial⟩ rfl ?_
                              refine TL_ev env 5 rfl ⟨trivial, ⟨trivial, ⟨trivial, ⟨trivial, ⟨trivial, trivial⟩⟩⟩⟩⟩ ?_
                              refine TL_end ?_
                              refine TE_go ?_
                              refine TC_seq ?_
                              refine TC_reg ?_
                              refine TL_ev env 3 rfl ⟨trivial, ⟨⟨trivial, ⟨trivial, trivial⟩⟩, ⟨trivial, trivial⟩⟩⟩ ?_
                              refine TL_gf (.bool false) rfl rfl rfl rfl rfl (by decide) ?_
                              refine TL_gf (.bool false) rfl rfl rfl rfl rfl (by decide) ?_
                              refine TL_ev env 2 rfl ⟨⟨trivial, ⟨trivial, fun e => e⟩⟩, ⟨trivial, trivial⟩⟩ ?_
                              refine TL_gf (.bool false) rfl rfl rfl rfl rfl (by decide) ?_
                              refine TL_gf (.bool false) rfl rfl rfl rfl rfl (by decide) ?_
                              refine TL_gf (.bool false) rfl rfl rfl rfl rfl (by decide) ?_
                              refine TL_gf (.bool false) rfl rfl rfl rfl rfl (by decide) ?_
                              refine TL_ev env 2 rfl ⟨⟨trivial, ⟨trivial, fun e => e⟩⟩, ⟨trivial, trivial⟩⟩ ?_
                              refine TL_gf (.bool false) rfl rfl rfl rfl rfl (by decide) ?_
                              refine TL_gf (.bool false) rfl rfl rfl rfl rfl (by decide) ?_
                              refine TL_gf (.bool false) rfl rfl rfl rfl rfl (by decide) ?_
                              refine TL_gf (.bool false) rfl rfl rfl rfl rfl (by decide) ?_
                              refine TL_ev env 1 rfl ⟨⟨trivial, ⟨trivial, fun e => e⟩⟩, trivial⟩ ?_
                              refine TL_end ?_
                              refine TE_go ?_
                              refine TC_cond rfl (fun hb => ?_) (fun hb => ?_)
                              · refine TC_seq ?_
                                refine TC_reg ?_
                                refine TL_ev env 1 rfl ⟨trivial, trivial⟩ ?_
                                refine TL_end ?_
                                refine TE_go ?_
                                refine TC_ret ?_
                                refine tbr ?_
                                refine tsr ?_
                                refine tsr ?_
                                refine tbr ?_
                                refine tsr ?_
                                refine tsr ?_
                                refine tsr ?_
                                obtain rfl := sinj h2
                                obtain rfl := sinj h1
                                obtain rfl := sinj h0
                                exact TE_ret env rfl trivial trivial
                              · first | exact (ftf hb).elim | exact (tff hb).elim | exact absurd hb (by decide)
                            · refine TL_callB [(0, 18002), (1, 18006)] (poly_Joiner_Feed_2.ok1 hr) poly_Joiner_Feed_2.fnb rfl ⟨trivial, ⟨trivial, ⟨trivial, trivial⟩⟩⟩ rfl ⟨.inr rfl, .inr rfl, trivial⟩ rfl ?_
                              refine TL_ev env 5 rfl ⟨trivial, ⟨trivial, ⟨trivial, ⟨trivial, ⟨trivial, trivial⟩⟩⟩⟩⟩ ?_
                              refine TL_end ?_
                              refine TE_go ?_
                              refine TC_seq ?_
                              refine TC_reg ?_
                              refine TL_ev env 3 rfl ⟨trivial, ⟨⟨trivial, ⟨trivial, trivial⟩⟩, ⟨trivial, trivial⟩⟩⟩ ?_
                              refine TL_gf (.bool false) rfl rfl rfl rfl rfl (by decide) ?_
                              refine TL_gf (.bool false) rfl rfl rfl rfl rfl (by decide) ?_
                              refine TL_ev env 2 rfl ⟨⟨trivial, ⟨trivial, fun e => e⟩⟩, ⟨trivial, trivial⟩⟩ ?_
                              refine TL_gf (.bool false) rfl rfl rfl rfl rfl (by decide) ?_
                              refine TL_gf (.bool false) rfl rfl rfl rfl rfl (by decide) ?_
                              refine TL_gf (.bool false) rfl rfl rfl rfl rfl (by decide) ?_
                              refine TL_gf (.bool false) rfl rfl rfl rfl rfl (by decide) ?_
                              refine TL_ev env 2 rfl ⟨⟨trivial, ⟨trivial, fun e => e⟩⟩, ⟨trivial, trivial⟩⟩ ?_
                              refine TL_gf (.bool false) rfl rfl rfl rfl rfl (by decide) ?_
                              refine TL_gf (.bool false) rfl rfl rfl rfl rfl (by decide) ?_
                              refine TL_gf (.bool false) rfl rfl rfl rfl rfl (by decide) ?_
                              refine TL_gf (.bool false) rfl rfl rfl rfl rfl (by decide) ?_
                              refine TL_ev env 1 rfl ⟨⟨trivial, ⟨trivial, fun e => e⟩⟩, trivial⟩ ?_
                              refine TL_end ?_
                              refine TE_go ?_
                              refine TC_cond rfl (fun hb => ?_) (fun hb => ?_)
                              · refine TC_seq ?_
                                refine TC_reg ?_
                                refine TL_ev env 1 rfl ⟨trivial, trivial⟩ ?_
                                refine TL_end ?_
                                refine TE_go ?_
                                refine TC_ret ?_
                                refine tbr ?_
                                refine tsr ?_
                                refine tsr ?_
                                refine tbr ?_
                                refine tsr ?_
                                refine tsr ?_
                                refine tsr ?_
                                obtain rfl := sinj h2
                                obtain rfl := sinj h1
                                obtain rfl := sinj h0
                                exact TE_ret env rfl trivial trivial
                              · first | exact (ftf hb).elim | exact (tff hb).elim | exact absurd hb (by decide)
                          · refine TL_callB [(0, 18000), (1, 18004)] (poly_Splitter_Feed.ok1 hr) poly_Splitter_Feed.fnb rfl ⟨trivial, ⟨trivial, ⟨trivial, trivial⟩⟩⟩ rfl ⟨.inr rfl, .inr rfl, trivial⟩ rfl ?_
                            refine TL_ev env 5 rfl ⟨trivial, ⟨trivial, ⟨trivial, ⟨trivial, ⟨trivial, trivial⟩⟩⟩⟩⟩ ?_
                            refine TL_end ?_
                            refine TE_go ?_
                            refine TC_seq ?_
                            refine TC_reg ?_
                            obtain ⟨g, h2⟩ := gd_t h2
                            refine TL_ev env 3 rfl ⟨trivial, ⟨trivial, ⟨⟨trivial, ⟨trivial, ⟨g.1, ⟨g.2.1, g.2.2⟩⟩⟩⟩, trivial⟩⟩⟩ ?_
                            refine TL_frz 1110 rfl ?_
                            obtain ⟨z, hr, h2⟩ := bnd h2
                            rcases z with ⟨⟩ | ⟨r543, r544⟩
                            · refine TL_callB [(0, 18002), (1, 18006)] (poly_Joiner_Feed_2.ok0 hr) poly_Joiner_Feed_2.fnb rfl ⟨trivial, ⟨trivial, ⟨trivial, trivial⟩⟩⟩ rfl ⟨.inr rfl, .inr rfl, trivial⟩ rfl ?_
                              refine TL_ev env 5 rfl ⟨trivial, ⟨trivial, ⟨trivial, ⟨trivial, ⟨trivial, trivial⟩⟩⟩⟩⟩ ?_
                              refine TL_end ?_
                              refine TE_go ?_
                              refine TC_seq ?_
                              refine TC_reg ?_
                              refine TL_ev env 3 rfl ⟨trivial, ⟨⟨trivial, ⟨trivial, trivial⟩⟩, ⟨trivial, trivial⟩⟩⟩ ?_
                              refine TL_gt rfl rfl rfl rfl ?_
                              refine TL_ev env 1 rfl ⟨trivial, trivial⟩ ?_
                              refine TL_gt rfl rfl rfl rfl ?_
                              refine TL_ev env 3 rfl ⟨⟨trivial, ⟨trivial, trivial⟩⟩, ⟨⟨trivial, ⟨trivial, trivial⟩⟩, ⟨trivial, trivial⟩⟩⟩ ?_
                              refine TL_gf (.bool false) rfl rfl rfl rfl rfl (by decide) ?_
                              refine TL_gf (.bool false) rfl rfl rfl rfl rfl (by decide) ?_
                              refine TL_gf (.bool false) rfl rfl rfl rfl rfl (by decide) ?_
                              refine TL_gf (.bool false) rfl rfl rfl rfl rfl (by decide) ?_
                              refine TL_ev env 2 rfl ⟨⟨trivial, ⟨trivial, fun e => e⟩⟩, ⟨trivial, trivial⟩⟩ ?_
                              refine TL_gf (.bool false) rfl rfl rfl rfl rfl (by decide) ?_
                              refine TL_gf (.bool false) rfl rfl rfl rfl rfl (by decide) ?_
                              refine TL_gf (.bool false) rfl rfl rfl rfl rfl (by decide) ?_
                              refine TL_gf (.bool false) rfl rfl rfl rfl rfl (by decide) ?_
                              refine TL_ev env 1 rfl ⟨⟨trivial, ⟨trivial, fun e => e⟩⟩, trivial⟩ ?_
                              refine TL_end ?_
                              refine TE_go ?_
                              refine TC_cond rfl (fun hb => ?_) (fun hb => ?_)
                              · refine TC_seq ?_
                                refine TC_reg ?_
                                refine TL_ev env 1 rfl ⟨trivial, trivial⟩ ?_
                                refine TL_end ?_
                                refine TE_go ?_
                                refine TC_ret ?_
                                refine tbr ?_
                                refine tsr ?_
                                refine tsr ?_
                                refine tbr ?_
                                refine tsr ?_
                                refine tsr ?_
                                refine tsr ?_
                                obtain rfl := sinj h2
                                obtain rfl := sinj h1
                                obtain rfl := sinj h0
                                exact TE_ret env rfl trivial trivial
                              · first | exact (ftf hb).elim | exact (tff hb).elim | exact absurd hb (by decide)
                            · refine TL_callB [(0, 18002), (1, 18006)] (poly_Joiner_Feed_2.ok1 hr) poly_Joiner_Feed_2.fnb rfl ⟨trivial, ⟨trivial, ⟨trivial, trivial⟩⟩⟩ rfl ⟨.inr rfl, .inr rfl, trivial⟩ rfl ?_
                              refine TL_ev env 5 rfl ⟨trivial, ⟨trivial, ⟨trivial, ⟨trivial, ⟨trivial, trivial⟩⟩⟩⟩⟩ ?_
                              refine TL_end ?_
                              refine TE_go ?_
                              refine TC_seq ?_
                              refine TC_reg ?_
                              refine TL_ev env 3 rfl ⟨trivial, ⟨⟨trivial, ⟨trivial, trivial⟩⟩, ⟨trivial, trivial⟩⟩⟩ ?_
                              refine TL_gt rfl rfl rfl rfl ?_
                              refine TL_ev env 1 rfl ⟨trivial, trivial⟩ ?_
                              refine TL_gt rfl rfl rfl rfl ?_
                              refine TL_ev env 3 rfl ⟨⟨trivial, ⟨trivial, trivial⟩⟩, ⟨⟨trivial, ⟨trivial, trivial⟩⟩, ⟨trivial, trivial⟩⟩⟩ ?_
                              refine TL_gt rfl rfl rfl rfl ?_
                              refine TL_ev env 1 rfl ⟨trivial, trivial⟩ ?_
                              refine TL_gt rfl rfl rfl rfl ?_
                              refine TL_ev env 1 rfl ⟨⟨trivial, trivial⟩, trivial⟩ ?_
                              refine TL_gt rfl rfl rfl rfl ?_
                              refine TL_ev env 1 rfl ⟨trivial, trivial⟩ ?_
                              refine TL_gt rfl rfl rfl rfl ?_
                              refine TL_ev env 8 rfl ⟨⟨trivial, ⟨trivial, trivial⟩⟩, ⟨⟨trivial, ⟨trivial, trivial⟩⟩, ⟨trivial, ⟨fun eg => trivial, ⟨fun eg => ⟨fun e => e, trivial⟩, ⟨fun eg => trivial, ⟨fun eg => ⟨fun e => e, ⟨fun e => e, trivial⟩⟩, ⟨⟨trivial, ⟨trivial, fun e => e⟩⟩, trivial⟩⟩⟩⟩⟩⟩⟩⟩ ?_
                              refine TL_end ?_
                              refine TE_go ?_
                              refine TC_cond rfl (fun hb => ?_) (fun hb => ?_)
                              · replace h2 := bif_t h2 hb
                                refine TC_seq ?_
                                refine TC_reg ?_
                                refine TL_ev env 1 rfl ⟨trivial, trivial⟩ ?_
                                refine TL_end ?_
                                refine TE_go ?_
                                refine TC_ret ?_
                                refine tbr ?_
                                refine tsr ?_
                                refine tsr ?_
                                refine tbr ?_
                                refine tsr ?_
                                refine tsr ?_
                                refine tsr ?_
                                obtain rfl := sinj h2
                                obtain rfl := sinj h1
                                obtain rfl := sinj h0
                                exact TE_ret env rfl trivial trivial
                              · replace h2 := bif_f h2 hb
                                refine TC_skip ?_
                                refine tbn ?_
                                refine TE_go ?_
                                refine TC_reg ?_
                                refine TL_ev env 3 rfl ⟨trivial, ⟨⟨trivial, ⟨trivial, trivial⟩⟩, ⟨trivial, trivial⟩⟩⟩ ?_
                                refine TL_end ?_
                                refine tsn ?_
                                exact TE_nextr [(18000, 18000), (18001, 18001), (18002, 18002), (18003, 18003), (18004, 18004), (18005, 18005), (18006, 18006), (18007, 18007)] n (Nat.lt_succ_self n) (_, _, _) h2 ⟨rfl, rfl, rfl, rfl, rfl, rfl, rfl, trivial⟩ ⟨rfl, rfl, rfl, rfl, rfl, rfl, rfl, rfl, trivial⟩ rfl
                        · replace h2 := bif_f h2 hb
                          refine TC_exit ?_
                          refine tsx ?_
                          refine tsx ?_
                          refine tbe ?_
                          obtain rfl := sinj h2
                          refine tsn ?_
                          exact SP_ren [(17800, 18000), (17801, 18001), (17802, 18002), (17803, 18003), (17804, 18004), (17805, 18005), (17806, 18006), (17807, 18007)] (_, _) rfl ⟨rfl, rfl, rfl, rfl, rfl, rfl, trivial⟩ ⟨rfl, rfl, rfl, rfl, rfl, rfl, rfl, rfl, trivial⟩ rfl
                      · rintro ⟨x499, x500⟩ rfl
                        obtain rfl := sinj h1
                        refine tsn ?_
                        exact SP_ren [(13800, 17800), (13801, 17801), (13802, 17802), (13803, 17803), (13804, 17804), (13805, 17805), (13806, 17806), (13807, 17807)] (_, _) rfl ⟨rfl, rfl, rfl, rfl, rfl, rfl, trivial⟩ ⟨rfl, rfl, rfl, rfl, rfl, rfl, rfl, rfl, trivial⟩ rfl
                  · rintro ⟨x270, x271⟩ rfl
                    refine TE_go ?_
                    refine TC_seq ?_
                    refine TC_seq ?_
                    refine TC_reg ?_
                    refine TL_ev env 2 rfl ⟨trivial, ⟨trivial, trivial⟩⟩ ?_
                    obtain ⟨r272, hr, h0⟩ := bnd h0
                    refine TL_callB [] (psalterylaw08_cut_int16.ok0 hr) psalterylaw08_cut_int16.fnb rfl ⟨trivial, ⟨trivial, ⟨trivial, trivial⟩⟩⟩ rfl trivial rfl ?_
                    refine TL_ev env 2 rfl ⟨⟨trivial, trivial⟩, ⟨trivial, trivial⟩⟩ ?_
                    refine TL_end ?_
                    refine TE_go ?_
                    obtain ⟨z1, h1, h0⟩ := bnd h0
                    refine TC_cut (α := Unit) (fun _ => z1 = .inl ()) (fun _ => []) (fun _ => []) ?_ ?_
                    · refine TC_blk ?_
                      refine TC_loop (α := Int × (List (Int)) × (List (Int)) × (List (Int)) × (List (Int))) (fun n s => psalterylaw08_PolyForgets.l0 K x173 r272 (r272.length : Int) r180 r181 r189 r190 r198 r199 r207 r208 n s.1 s.2.1 s.2.2.1 s.2.2.2.1 s.2.2.2.2 = some z1) (fun s => [(7, .int .i64 x173), (8, .p 15900 0), (10, .p 15901 0), (12, .p 15902 0), (14, .p 15903 0), (134, .im (.slice (.slice (.int .i16))) r272), (135, .int .i64 (r272.length : Int)), (136, .int .i64 s.1)]) (fun s => [(15900, some (.cells [.int .i64 x173, .im (.slice (.int .i16)) r180, .im (.slice (.int .i16)) r181, .sl 15904])), (15901, some (.cells [.int .i64 x173, .im (.slice (.int .i16)) r189, .im (.slice (.int .i16)) r190, .sl 15905])), (15902, some (.cells [.int .i64 x173, .im (.slice (.int .i16)) r198, .im (.slice (.int .i16)) r199, .sl 15906])), (15903, some (.cells [.int .i64 x173, .im (.slice (.int .i16)) r207, .im (.slice (.int .i16)) r208, .sl 15907])), (15904, some (.rows (.int .i64) s.2.1)), (15905, some (.rows (.int .i64) s.2.2.1)), (15906, some (.rows (.int .i64) s.2.2.2.1)), (15907, some (.rows (.int .i64) s.2.2.2.2))]) K ?_ ?_
                      · exact SP_ren [(15900, 13800), (15901, 13801), (15902, 13802), (15903, 13803), (15904, 13804), (15905, 13805), (15906, 13806), (15907, 13807)] (_, _, _, _, _) h1 ⟨rfl, rfl, rfl, rfl, rfl, rfl, rfl, rfl, trivial⟩ ⟨rfl, rfl, rfl, rfl, rfl, rfl, rfl, rfl, trivial⟩ rfl
                      rintro n ⟨x370, x371, x372, x373, x374⟩ h1
                      rcases n with _ | n
                      · exact (nsome h1).elim
                      replace h1 : psalterylaw08_PolyForgets.r0 K x173 r272 (r272.length : Int) r180 r181 r189 r190 r198 r199 r207 r208 (psalterylaw08_PolyForgets.l0 K x173 r272 (r272.length : Int) r180 r181 r189 r190 r198 r199 r207 r208 n) x370 x371 x372 x373 x374 = some z1 := h1
                      refine TC_seq ?_
                      refine TC_reg ?_
                      refine TL_ev env 1 rfl ⟨⟨trivial, ⟨trivial, trivial⟩⟩, trivial⟩ ?_
                      refine TL_end ?_
                      refine TE_go ?_
                      refine TC_seq ?_
                      refine TC_cond rfl (fun hb => ?_) (fun hb => ?_)
                      · replace h1 := bif_t h1 hb
                        refine TC_skip ?_
                        refine TE_go ?_
                        refine TC_seq ?_
                        obtain ⟨z2, h2, h1⟩ := bnd h1
                        refine TC_cut (α := (List (Int)) × (List (Int)) × Bool × Bool × (List (Int)) × (List (Int)) × (List (Int)) × (List (Int))) (fun s => z2 = .inl s) (fun s => [(7, .int .i64 x173), (8, .p 17000 0), (10, .p 17001 0), (12, .p 17002 0), (14, .p 17003 0), (134, .im (.slice (.slice (.int .i16))) r272), (135, .int .i64 (r272.length : Int)), (136, .int .i64 x370), (155, .int .i64 0), (156, .bool false), (159, .im (.slice (.int .i32)) s.1), (160, .im (.slice (.int .i32)) s.2.1), (161, .bool s.2.2.1), (162, .bool s.2.2.2.1)]) (fun s => [(17000, some (.cells [.int .i64 x173, .im (.slice (.int .i16)) r180, .im (.slice (.int .i16)) r181, .sl 17004])), (17001, some (.cells [.int .i64 x173, .im (.slice (.int .i16)) r189, .im (.slice (.int .i16)) r190, .sl 17005])), (17002, some (.cells [.int .i64 x173, .im (.slice (.int .i16)) r198, .im (.slice (.int .i16)) r199, .sl 17006])), (17003, some (.cells [.int .i64 x173, .im (.slice (.int .i16)) r207, .im (.slice (.int .i16)) r208, .sl 17007])), (17004, some (.rows (.int .i64) s.2.2.2.2.1)), (17005, some (.rows (.int .i64) s.2.2.2.2.2.1)), (17006, some (.rows (.int .i64) s.2.2.2.2.2.2.1)), (17007, some (.rows (.int .i64) s.2.2.2.2.2.2.2))]) ?_ ?_
                        · refine TC_blk ?_
                          refine TC_seq ?_
                          refine TC_reg ?_
                          obtain ⟨g, h2⟩ := gd_t h2
                          refine TL_ev env 3 rfl ⟨⟨trivial, ⟨trivial, ⟨g.1, g.2⟩⟩⟩, ⟨⟨trivial, trivial⟩, ⟨trivial, trivial⟩⟩⟩ ?_
                          refine TL_end ?_
                          refine TE_go ?_
                          refine TC_seq ?_
                          refine TC_reg ?_
                          refine TL_ev env 2 rfl ⟨trivial, ⟨trivial, trivial⟩⟩ ?_
                          obtain ⟨z, hr, h2⟩ := bnd h2
                          rcases z with ⟨⟩ | ⟨r441, r442⟩
                          · refine TL_callB [(0, 15900), (1, 15904)] (poly_Splitter_Feed.ok0 hr) poly_Splitter_Feed.fnb rfl ⟨trivial, ⟨trivial, ⟨trivial, trivial⟩⟩⟩ rfl ⟨.inr rfl, .inr rfl, trivial⟩ rfl ?_
                            refine TL_ev env 5 rfl ⟨trivial, ⟨trivial, ⟨trivial, ⟨trivial, ⟨trivial, trivial⟩⟩⟩⟩⟩ ?_
                            refine TL_end ?_
                            refine TE_go ?_
                            refine TC_seq ?_
                            refine TC_reg ?_
                            refine TL_ev env 2 rfl ⟨trivial, ⟨trivial, trivial⟩⟩ ?_
                            obtain ⟨z, hr, h2⟩ := bnd h2
                            rcases z with ⟨⟩ | ⟨r443, r444⟩
                            · refine TL_callB [(0, 15901), (1, 15905)] (poly_Splitter_Feed.ok0 hr) poly_Splitter_Feed.fnb rfl ⟨trivial, ⟨trivial, ⟨trivial, trivial⟩⟩⟩ rfl ⟨.inr rfl, .inr rfl, trivial⟩ rfl ?_
                              refine TL_ev env 5 rfl ⟨trivial, ⟨trivial, ⟨trivial, ⟨trivial, ⟨trivial, trivial⟩⟩⟩⟩⟩ ?_
                              refine TL_end ?_
                              refine TE_go ?_
                              refine TC_seq ?_
                              refine TC_seq ?_
                              refine TC_reg ?_
                              refine TL_ev env 3 rfl ⟨trivial, ⟨⟨trivial, ⟨trivial, trivial⟩⟩, ⟨trivial, trivial⟩⟩⟩ ?_
                              refine TL_gf (.bool false) rfl rfl rfl rfl rfl (by decide) ?_
                              refine TL_gf (.bool false) rfl rfl rfl rfl rfl (by decide) ?_
                              refine TL_ev env 2 rfl ⟨⟨trivial, ⟨trivial, fun e => e⟩⟩, ⟨trivial, trivial⟩⟩ ?_
                              refine TL_gf (.bool false) rfl rfl rfl rfl rfl (by decide) ?_
                              refine TL_gf (.bool false) rfl rfl rfl rfl rfl (by decide) ?_
                              refine TL_gf (.bool false) rfl rfl rfl rfl rfl (by decide) ?_
                              refine TL_gf (.bool false) rfl rfl rfl rfl rfl (by decide) ?_
                              refine TL_ev env 1 rfl ⟨⟨trivial, ⟨trivial, fun e => e⟩⟩, trivial⟩ ?_
                              refine TL_end ?_
                              refine TE_go ?_
                              refine TC_cond rfl (fun hb => ?_) (fun hb => ?_)
                              · refine TC_seq ?_
                                refine TC_reg ?_
                                refine TL_ev env 1 rfl ⟨trivial, trivial⟩ ?_
                                refine TL_end ?_
                                refine TE_go ?_
                                refine TC_ret ?_
                                refine tsr ?_
                                refine tbr ?_
                                refine tsr ?_
                                refine tsr ?_
                                refine tsr ?_
                                refine tbr ?_
                                refine tsr ?_
                                refine tsr ?_
                                obtain rfl := sinj h2
                                obtain rfl := sinj h1
                                obtain rfl := sinj h0
                                exact TE_ret env rfl trivial trivial
                              · first | exact (ftf hb).elim | exact (tff hb).elim | exact absurd hb (by decide)
                            · refine TL_callB [(0, 15901), (1, 15905)] (poly_Splitter_Feed.ok1 hr) poly_Splitter_Feed.fnb rfl ⟨trivial, ⟨trivial, ⟨trivial, trivial⟩⟩⟩ rfl ⟨.inr rfl, .inr rfl, trivial⟩ rfl ?_
                              refine TL_ev env 5 rfl ⟨trivial, ⟨trivial, ⟨trivial, ⟨trivial, ⟨trivial, trivial⟩⟩⟩⟩⟩ ?_
                              refine TL_end ?_
                              refine TE_go ?_
                              refine TC_seq ?_
                              refine TC_seq ?_
                              refine TC_reg ?_
                              refine TL_ev env 3 rfl ⟨trivial, ⟨⟨trivial, ⟨trivial, trivial⟩⟩, ⟨trivial, trivial⟩⟩⟩ ?_
                              refine TL_gf (.bool false) rfl rfl rfl rfl rfl (by decide) ?_
                              refine TL_gf (.bool false) rfl rfl rfl rfl rfl (by decide) ?_
                              refine TL_ev env 2 rfl ⟨⟨trivial, ⟨trivial, fun e => e⟩⟩, ⟨trivial, trivial⟩⟩ ?_
                              refine TL_gf (.bool false) rfl rfl rfl rfl rfl (by decide) ?_
                              refine TL_gf (.bool false) rfl rfl rfl rfl rfl (by decide) ?_
                              refine TL_gf (.bool false) rfl rfl rfl rfl rfl (by decide) ?_
                              refine TL_gf (.bool false) rfl rfl rfl rfl rfl (by decide) ?_
                              refine TL_ev env 1 rfl ⟨⟨trivial, ⟨trivial, fun e => e⟩⟩, trivial⟩ ?_
                              refine TL_end ?_
                              refine TE_go ?_
                              refine TC_cond rfl (fun hb => ?_) (fun hb => ?_)
                              · refine TC_seq ?_
                                refine TC_reg ?_
                                refine TL_ev env 1 rfl ⟨trivial, trivial⟩ ?_
                                refine TL_end ?_
                                refine TE_go ?_
                                refine TC_ret ?_
                                refine tsr ?_
                                refine tbr ?_
                                refine tsr ?_
                                refine tsr ?_
                                refine tsr ?_
                                refine tbr ?_
                                refine tsr ?_
                                refine tsr ?_
                                obtain rfl := sinj h2
                                obtain rfl := sinj h1
                                obtain rfl := sinj h0
                                exact TE_ret env rfl trivial trivial
                              · first | exact (ftf hb).elim | exact (tff hb).elim | exact absurd hb (by decide)
                          · refine TL_callB [(0, 15900), (1, 15904)] (poly_Splitter_Feed.ok1 hr) poly_Splitter_Feed.fnb rfl ⟨trivial, ⟨trivial, ⟨trivial, trivial⟩⟩⟩ rfl ⟨.inr rfl, .inr rfl, trivial⟩ rfl ?_
                            refine TL_ev env 5 rfl ⟨trivial, ⟨trivial, ⟨trivial, ⟨trivial, ⟨trivial, trivial⟩⟩⟩⟩⟩ ?_
                            refine TL_end ?_
                            refine TE_go ?_
                            refine TC_seq ?_
                            refine TC_reg ?_
                            refine TL_ev env 2 rfl ⟨trivial, ⟨trivial, trivial⟩⟩ ?_
                            obtain ⟨z, hr, h2⟩ := bnd h2
                            rcases z with ⟨⟩ | ⟨r445, r446⟩
                            · refine TL_callB [(0, 15901), (1, 15905)] (poly_Splitter_Feed.ok0 hr) poly_Splitter_Feed.fnb rfl ⟨trivial, ⟨trivial, ⟨trivial, trivial⟩⟩⟩ rfl ⟨.inr rfl, .inr rfl, trivial⟩ rfl ?_
                              refine TL_ev env 5 rfl ⟨trivial, ⟨trivial, ⟨trivial, ⟨trivial, ⟨trivial, trivial⟩⟩⟩⟩⟩ ?_
                              refine TL_end ?_
                              refine TE_go ?_
                              refine TC_seq ?_
                              refine TC_seq ?_
                              refine TC_reg ?_
                              refine TL_ev env 3 rfl ⟨trivial, ⟨⟨trivial, ⟨trivial, trivial⟩⟩, ⟨trivial, trivial⟩⟩⟩ ?_
                              refine TL_gt rfl rfl rfl rfl ?_
                              refine TL_ev env 1 rfl ⟨trivial, trivial⟩ ?_
                              refine TL_gt rfl rfl rfl rfl ?_
                              refine TL_ev env 3 rfl ⟨⟨trivial, ⟨trivial, trivial⟩⟩, ⟨⟨trivial, ⟨trivial, trivial⟩⟩, ⟨trivial, trivial⟩⟩⟩ ?_
                              refine TL_gf (.bool false) rfl rfl rfl rfl rfl (by decide) ?_
                              refine TL_gf (.bool false) rfl rfl rfl rfl rfl (by decide) ?_
                              refine TL_gf (.bool false) rfl rfl rfl rfl rfl (by decide) ?_
                              refine TL_gf (.bool false) rfl rfl rfl rfl rfl (by decide) ?_
                              refine TL_ev env 1 rfl ⟨⟨trivial, ⟨trivial, fun e => e⟩⟩, trivial⟩ ?_
                              refine TL_end ?_
                              refine TE_go ?_
                              refine TC_cond rfl (fun hb => ?_) (fun hb => ?_)
                              · refine TC_seq ?_
                                refine TC_reg ?_
                                refine TL_ev env 1 rfl ⟨trivial, trivial⟩ ?_
                                refine TL_end ?_
                                refine TE_go ?_
                                refine TC_ret ?_
                                refine tsr ?_
                                refine tbr ?_
                                refine tsr ?_
                                refine tsr ?_
                                refine tsr ?_
                                refine tbr ?_
                                refine tsr ?_
                                refine tsr ?_
                                obtain rfl := sinj h2
                                obtain rfl := sinj h1
                                obtain rfl := sinj h0
                                exact TE_ret env rfl trivial trivial
                              · first | exact (ftf hb).elim | exact (tff hb).elim | exact absurd hb (by decide)
                            · refine TL_callB [(0, 15901), (1, 15905)] (poly_Splitter_Feed.ok1 hr) poly_Splitter_Feed.fnb rfl ⟨trivial, ⟨trivial, ⟨trivial, trivial⟩⟩⟩ rfl ⟨.inr rfl, .inr rfl, trivial⟩ rfl ?_
                              refine TL_ev env 5 rfl ⟨trivial, ⟨trivial, ⟨trivial, ⟨trivial, ⟨trivial, trivial⟩⟩⟩⟩⟩ ?_
                              refine TL_end ?_
                              refine TE_go ?_
                              refine TC_seq ?_
                              refine TC_seq ?_
                              refine TC_reg ?_
                              refine TL_ev env 3 rfl ⟨trivial, ⟨⟨trivial, ⟨trivial, trivial⟩⟩, ⟨trivial, trivial⟩⟩⟩ ?_
                              refine TL_gt rfl rfl rfl rfl ?_
                              refine TL_ev env 1 rfl ⟨trivial, trivial⟩ ?_
                              refine TL_gt rfl rfl rfl rfl ?_
                              refine TL_ev env 3 rfl ⟨⟨trivial, ⟨trivial, trivial⟩⟩, ⟨⟨trivial, ⟨trivial, trivial⟩⟩, ⟨trivial, trivial⟩⟩⟩ ?_
                              refine TL_gt rfl rfl rfl rfl ?_
                              refine TL_ev env 1 rfl ⟨trivial, trivial⟩ ?_
                              refine TL_gt rfl rfl rfl rfl ?_
                              refine TL_ev env 1 rfl ⟨trivial, trivial⟩ ?_
                              refine TL_gt rfl rfl rfl rfl ?_
                              obtain ⟨r448, hr, h2⟩ := bnd h2
                              refine TL_callB [] (psalteryref08_Same32.ok0 hr) psalteryref08_Same32.fnb rfl ⟨trivial, ⟨trivial, ⟨trivial, trivial⟩⟩⟩ rfl trivial rfl ?_
                              refine TL_gt rfl rfl rfl rfl ?_
                              refine TL_ev env 2 rfl ⟨trivial, ⟨⟨trivial, ⟨trivial, trivial⟩⟩, trivial⟩⟩ ?_
                              refine TL_end ?_
                              refine TE_go ?_
                              refine TC_cond rfl (fun hb => ?_) (fun hb => ?_)
                              · replace h2 := bif_t h2 hb
                                refine TC_seq ?_
                                refine TC_reg ?_
                                refine TL_ev env 1 rfl ⟨trivial, trivial⟩ ?_
                                refine TL_end ?_
                                refine TE_go ?_
                                refine TC_ret ?_
                                refine tsr ?_
                                refine tbr ?_
                                refine tsr ?_
                                refine tsr ?_
                                refine tsr ?_
                                refine tbr ?_
                                refine tsr ?_
                                refine tsr ?_
                                obtain rfl := sinj h2
                                obtain rfl := sinj h1
                                obtain rfl := sinj h0
                                exact TE_ret env rfl trivial trivial
                              · replace h2 := bif_f h2 hb
                                refine TC_skip ?_
                                refine TE_go ?_
                                refine TC_seq ?_
                                refine TC_reg ?_
                                refine TL_ev env 2 rfl ⟨trivial, ⟨trivial, trivial⟩⟩ ?_
                                obtain ⟨z, hr, h2⟩ := bnd h2
                                rcases z with ⟨⟩ | ⟨r449, r450⟩
                                · refine TL_callB [(0, 15902), (1, 15906)] (poly_Joiner_Feed_2.ok0 hr) poly_Joiner_Feed_2.fnb rfl ⟨trivial, ⟨trivial, ⟨trivial, trivial⟩⟩⟩ rfl ⟨.inr rfl, .inr rfl, trivial⟩ rfl ?_
                                  refine TL_ev env 5 rfl ⟨trivial, ⟨trivial, ⟨trivial, ⟨trivial, ⟨trivial, trivial⟩⟩⟩⟩⟩ ?_
                                  refine TL_end ?_
                                  refine TE_go ?_
                                  refine TC_seq ?_
                                  refine TC_reg ?_
                                  refine TL_ev env 2 rfl ⟨trivial, ⟨trivial, trivial⟩⟩ ?_
                                  obtain ⟨z, hr, h2⟩ := bnd h2
                                  rcases z with ⟨⟩ | ⟨r451, r452⟩
                                  · refine TL_callB [(0, 15903), (1, 15907)] (poly_Joiner_Feed_2.ok0 hr) poly_Joiner_Feed_2.fnb rfl ⟨trivial, ⟨trivial, ⟨trivial, trivial⟩⟩⟩ rfl ⟨.inr rfl, .inr rfl, trivial⟩ rfl ?_
                                    refine TL_ev env 5 rfl ⟨trivial, ⟨trivial, ⟨trivial, ⟨trivial, ⟨trivial, trivial⟩⟩⟩⟩⟩ ?_
                                    refine TL_end ?_
                                    refine TE_go ?_
                                    refine TC_seq ?_
                                    obtain ⟨z3, h3, h2⟩ := bnd h2
                                    refine TC_cut (α := Bool) (fun s => z3 = s) (fun s => [(7, .int .i64 x173), (8, .p 17100 0), (10, .p 17101 0), (12, .p 17102 0), (14, .p 17103 0), (134, .im (.slice (.slice (.int .i16))) r272), (135, .int .i64 (r272.length : Int)), (136, .int .i64 x370), (155, .int .i64 0), (156, .bool false), (159, .im (.slice (.int .i32)) r441), (160, .im (.slice (.int .i32)) r445), (161, .bool r448), (162, .bool (!r448)), (185, .bool s)]) (fun s => [(17100, some (.cells [.int .i64 x173, .im (.slice (.int .i16)) r180, .im (.slice (.int .i16)) r181, .sl 17104])), (17101, some (.cells [.int .i64 x173, .im (.slice (.int .i16)) r189, .im (.slice (.int .i16)) r190, .sl 17105])), (17102, some (.cells [.int .i64 x173, .im (.slice (.int .i16)) r198, .im (.slice (.int .i16)) r199, .sl 17106])), (17103, some (.cells [.int .i64 x173, .im (.slice (.int .i16)) r207, .im (.slice (.int .i16)) r208, .sl 17107])), (17104, some (.rows (.int .i64) r442)), (17105, some (.rows (.int .i64) r446)), (17106, some (.rows (.int .i64) x373)), (17107, some (.rows (.int .i64) x374))]) ?_ ?_
                                    · refine TC_reg ?_
                                      refine TL_ev env 5 rfl ⟨trivial, ⟨⟨trivial, trivial⟩, ⟨trivial, ⟨⟨trivial, ⟨trivial, trivial⟩⟩, ⟨trivial, trivial⟩⟩⟩⟩⟩ ?_
                                      refine TL_split 180 rfl (fun hb => ?_) (fun hb => ?_)
                                      · replace h3 := bif_t h3 hb
                                        refine TL_gf (.bool false) rfl rfl rfl rfl rfl (by decide) ?_
                                        refine TL_gf (.bool false) rfl rfl rfl rfl rfl (by decide) ?_
                                        refine TL_gf (.bool false) rfl rfl rfl rfl rfl (by decide) ?_
                                        refine TL_gf (.bool false) rfl rfl rfl rfl rfl (by decide) ?_
                                        refine TL_ev env 1 rfl ⟨⟨trivial, ⟨trivial, fun e => e⟩⟩, trivial⟩ ?_
                                        refine TL_end ?_
                                        obtain rfl := sinj h3
                                        refine tsn ?_
                                        exact SP_ren [(17100, 15900), (17101, 15901), (17102, 15902), (17103, 15903), (17104, 15904), (17105, 15905), (17106, 15906), (17107, 15907)] _ rfl ⟨rfl, rfl, rfl, rfl, rfl, rfl, rfl, rfl, rfl, rfl, rfl, rfl, rfl, rfl, rfl, trivial⟩ ⟨rfl, rfl, rfl, rfl, rfl, rfl, rfl, rfl, trivial⟩ rfl
                                      · replace h3 := bif_f h3 hb
                                        refine TL_gt rfl rfl rfl rfl ?_
                                        refine TL_ev env 1 rfl ⟨trivial, trivial⟩ ?_
                                        refine TL_gt rfl rfl rfl rfl ?_
                                        refine TL_ev env 1 rfl ⟨trivial, trivial⟩ ?_
                                        refine TL_gt rfl rfl rfl rfl ?_
                                        obtain ⟨⟨⟩, hr, h3⟩ := bnd h3
                                        refine TL_callB [] (psalteryref04_Same.ok0 hr) psalteryref04_Same.fnb rfl ⟨trivial, ⟨trivial, ⟨trivial, trivial⟩⟩⟩ rfl trivial rfl ?_
                                        refine TL_gt rfl rfl rfl rfl ?_
                                        refine TL_ev env 2 rfl ⟨trivial, ⟨⟨trivial, ⟨trivial, trivial⟩⟩, trivial⟩⟩ ?_
                                        refine TL_end ?_
                                        obtain rfl := sinj h3
                                        refine tsn ?_
                                        exact SP_ren [(17100, 15900), (17101, 15901), (17102, 15902), (17103, 15903), (17104, 15904), (17105, 15905), (17106, 15906), (17107, 15907)] _ rfl ⟨rfl, rfl, rfl, rfl, rfl, rfl, rfl, rfl, rfl, rfl, rfl, rfl, rfl, rfl, rfl, trivial⟩ ⟨rfl, rfl, rfl, rfl, rfl, rfl, rfl, rfl, trivial⟩ rfl
                                    · rintro x453 hz
                                      obtain rfl := hz.symm
                                      refine TE_go ?_
                                      refine TC_cond rfl (fun hb => ?_) (fun hb => ?_)
                                      · replace h2 := bif_t h2 hb
                                        refine TC_seq ?_
                                        refine TC_reg ?_
                                        refine TL_ev env 1 rfl ⟨trivial, trivial⟩ ?_
                                        refine TL_end ?_
                                        refine TE_go ?_
                                        refine TC_ret ?_
                                        refine tbr ?_
                                        refine tsr ?_
                                        refine tsr ?_
                                        refine tsr ?_
                                        refine tbr ?_
                                        refine tsr ?_
                                        refine tsr ?_
                                        obtain rfl := sinj h2
                                        obtain rfl := sinj h1
                                        obtain rfl := sinj h0
                                        exact TE_ret env rfl trivial trivial
                                      · replace h2 := bif_f h2 hb
                                        refine TC_skip ?_
                                        refine tbn ?_
                                        obtain rfl := sinj h2
                                        refine tsn ?_
                                        exact SP_ren [(17000, 17100), (17001, 17101), (17002, 17102), (17003, 17103), (17004, 17104), (17005, 17105), (17006, 17106), (17007, 17107)] (_, _, _, _, _, _, _, _) rfl ⟨rfl, rfl, rfl, rfl, rfl, rfl, rfl, rfl, rfl, rfl, rfl, rfl, rfl, rfl, trivial⟩ ⟨rfl, rfl, rfl, rfl, rfl, rfl, rfl, rfl, trivial⟩ rfl
                                  · refine TL_callB [(0, 15903), (1, 15907)] (poly_Joiner_Feed_2.ok1 hr) poly_Joiner_Feed_2.fnb rfl ⟨trivial, ⟨trivial, ⟨trivial, trivial⟩⟩⟩ rfl ⟨.inr rfl, .inr rfl, trivial⟩ rfl ?_
                                    refine TL_ev env 5 rfl ⟨trivial, ⟨trivial, ⟨trivial, ⟨trivial, ⟨trivial, trivial⟩⟩⟩⟩⟩ ?_
                                    refine TL_end ?_
                                    refine TE_go ?_
                                    refine TC_seq ?_
                                    obtain ⟨z3, h3, h2⟩ := bnd h2
                                    refine TC_cut (α := Bool) (fun s => z3 = s) (fun s => [(7, .int .i64 x173), (8, .p 17200 0), (10, .p 17201 0), (12, .p 17202 0), (14, .p 17203 0), (134, .im (.slice (.slice (.int .i16))) r272), (135, .int .i64 (r272.length : Int)), (136, .int .i64 x370), (155, .int .i64 0), (156, .bool false), (159, .im (.slice (.int .i32)) r441), (160, .im (.slice (.int .i32)) r445), (161, .bool r448), (162, .bool (!r448)), (185, .bool s)]) (fun s => [(17200, some (.cells [.int .i64 x173, .im (.slice (.int .i16)) r180, .im (.slice (.int .i16)) r181, .sl 17204])), (17201, some (.cells [.int .i64 x173, .im (.slice (.int .i16)) r189, .im (.slice (.int .i16)) r190, .sl 17205])), (17202, some (.cells [.int .i64 x173, .im (.slice (.int .i16)) r198, .im (.slice (.int .i16)) r199, .sl 17206])), (17203, some (.cells [.int .i64 x173, .im (.slice (.int .i16)) r207, .im (.slice (.int .i16)) r208, .sl 17207])), (17204, some (.rows (.int .i64) r442)), (17205, some (.rows (.int .i64) r446)), (17206, some (.rows (.int .i64) x373)), (17207, some (.rows (.int .i64) r452))]) ?_ ?_
                                    · refine TC_reg ?_
                                      refine TL_ev env 5 rfl ⟨trivial, ⟨⟨trivial, trivial⟩, ⟨trivial, ⟨⟨trivial, ⟨trivial, trivial⟩⟩, ⟨trivial, trivial⟩⟩⟩⟩⟩ ?_
                                      refine TL_split 180 rfl (fun hb => ?_) (fun hb => ?_)
                                      · replace h3 := bif_t h3 hb
                                        refine TL_gf (.bool false) rfl rfl rfl rfl rfl (by decide) ?_
                                        refine TL_gf (.bool false) rfl rfl rfl rfl rfl (by decide) ?_
                                        refine TL_gf (.bool false) rfl rfl rfl rfl rfl (by decide) ?_
                                        refine TL_gf (.bool false) rfl rfl rfl rfl rfl (by decide) ?_
                                        refine TL_ev env 1 rfl ⟨⟨trivial, ⟨trivial, fun e => e⟩⟩, trivial⟩ ?_
                                        refine TL_end ?_
                                        obtain rfl := sinj h3
                                        refine tsn ?_
                                        exact SP_ren [(17200, 15900), (17201, 15901), (17202, 15902), (17203, 15903), (17204, 15904), (17205, 15905), (17206, 15906), (17207, 15907)] _ rfl ⟨rfl, rfl, rfl, rfl, rfl, rfl, rfl, rfl, rfl, rfl, rfl, rfl, rfl, rfl, rfl, trivial⟩ ⟨rfl, rfl, rfl, rfl, rfl, rfl, rfl, rfl, trivial⟩ rfl
                                      · replace h3 := bif_f h3 hb
                                        refine TL_gt rfl rfl rfl rfl ?_
                                        refine TL_ev env 1 rfl ⟨trivial, trivial⟩ ?_
                                        refine TL_gt rfl rfl rfl rfl ?_
                                        refine TL_ev env 1 rfl ⟨trivial, trivial⟩ ?_
                                        refine TL_gt rfl rfl rfl rfl ?_
                                        obtain ⟨r456, hr, h3⟩ := bnd h3
                                        refine TL_callB [] (psalteryref04_Same_2.ok0 hr) psalteryref04_Same_2.fnb rfl ⟨trivial, ⟨trivial, ⟨trivial, trivial⟩⟩⟩ rfl trivial rfl ?_
                                        refine TL_gt rfl rfl rfl rfl ?_
                                        refine TL_ev env 2 rfl ⟨trivial, ⟨⟨trivial, ⟨trivial, trivial⟩⟩, trivial⟩⟩ ?_
                                        refine TL_end ?_
                                        obtain rfl := sinj h3
                                        refine tsn ?_
                                        exact SP_ren [(17200, 15900), (17201, 15901), (17202, 15902), (17203, 15903), (17204, 15904), (17205, 15905), (17206, 15906), (17207, 15907)] _ rfl ⟨rfl, rfl, rfl, rfl, rfl, rfl, rfl, rfl, rfl, rfl, rfl, rfl, rfl, rfl, rfl, trivial⟩ ⟨rfl, rfl, rfl, rfl, rfl, rfl, rfl, rfl, trivial⟩ rfl
                                    · rintro x455 hz
                                      obtain rfl := hz.symm
                                      refine TE_go ?_
                                      refine TC_cond rfl (fun hb => ?_) (fun hb => ?_)
                                      · replace h2 := bif_t h2 hb
                                        refine TC_seq ?_
                                        refine TC_reg ?_
                                        refine TL_ev env 1 rfl ⟨trivial, trivial⟩ ?_
                                        refine TL_end ?_
                                        refine TE_go ?_
                                        refine TC_ret ?_
                                        refine tbr ?_
                                        refine tsr ?_
                                        refine tsr ?_
                                        refine tsr ?_
                                        refine tbr ?_
                                        refine tsr ?_
                                        refine tsr ?_
                                        obtain rfl := sinj h2
                                        obtain rfl := sinj h1
                                        obtain rfl := sinj h0
                                        exact TE_ret env rfl trivial trivial
                                      · replace h2 := bif_f h2 hb
                                        refine TC_skip ?_
                                        refine tbn ?_
                                        obtain rfl := sinj h2
                                        refine tsn ?_
                                        exact SP_ren [(17000, 17200), (17001, 17201), (17002, 17202), (17003, 17203), (17004, 17204), (17005, 17205), (17006, 17206), (17007, 17207)] (_, _, _, _, _, _, _, _) rfl ⟨rfl, rfl, rfl, rfl, rfl, rfl, rfl, rfl, rfl, rfl, rfl, rfl, rfl, rfl, trivial⟩ ⟨rfl, rfl, rfl, rfl, rfl, rfl, rfl, rfl, trivial⟩ rfl
                                · refine TL_callB [(0, 15902), (1, 15906)] (poly_Joiner_Feed_2.ok1 hr) poly_Joiner_Feed_2.fnb rfl ⟨trivial, ⟨trivial, ⟨trivial, trivial⟩⟩⟩ rfl ⟨.inr rfl, .inr rfl, trivial⟩ rfl ?_
                                  refine TL_ev env 5 rfl ⟨trivial, ⟨trivial, ⟨trivial, ⟨trivial, ⟨trivial, trivial⟩⟩⟩⟩⟩ ?_
                                  refine TL_end ?_
                                  refine TE_go ?_
                                  refine TC_seq ?_
                                  refine TC_reg ?_
                                  refine TL_ev env 2 rfl ⟨trivial, ⟨trivial, trivial⟩⟩ ?_
                                  obtain ⟨z, hr, h2⟩ := bnd h2
                                  rcases z with ⟨⟩ | ⟨r457, r458⟩
                                  · refine TL_callB [(0, 15903), (1, 15907)] (poly_Joiner_Feed_2.ok0 hr) poly_Joiner_Feed_2.fnb rfl ⟨trivial, ⟨trivial, ⟨trivial, trivial⟩⟩⟩ rfl ⟨.inr rfl, .inr rfl, trivial⟩ rfl ?_
                                    refine TL_ev env 5 rfl ⟨trivial, ⟨trivial, ⟨trivial, ⟨trivial, ⟨trivial, trivial⟩⟩⟩⟩⟩ ?_
                                    refine TL_end ?_
                                    refine TE_go ?_
                                    refine TC_seq ?_
                                    obtain ⟨z3, h3, h2⟩ := bnd h2
                                    refine TC_cut (α := Bool) (fun s => z3 = s) (fun s => [(7, .int .i64 x173), (8, .p 17300 0), (10, .p 17301 0), (12, .p 17302 0), (14, .p 17303 0), (134, .im (.slice (.slice (.int .i16))) r272), (135, .int .i64 (r272.length : Int)), (136, .int .i64 x370), (155, .int .i64 0), (156, .bool false), (159, .im (.slice (.int .i32)) r441), (160, .im (.slice (.int .i32)) r445), (161, .bool r448), (162, .bool (!r448)), (185, .bool s)]) (fun s => [(17300, some (.cells [.int .i64 x173, .im (.slice (.int .i16)) r180, .im (.slice (.int .i16)) r181, .sl 17304])), (17301, some (.cells [.int .i64 x173, .im (.slice (.int .i16)) r189, .im (.slice (.int .i16)) r190, .sl 17305])), (17302, some (.cells [.int .i64 x173, .im (.slice (.int .i16)) r198, .im (.slice (.int .i16)) r199, .sl 17306])), (17303, some (.cells [.int .i64 x173, .im (.slice (.int .i16)) r207, .im (.slice (.int .i16)) r208, .sl 17307])), (17304, some (.rows (.int .i64) r442)), (17305, some (.rows (.int .i64) r446)), (17306, some (.rows (.int .i64) r450)), (17307, some (.rows (.int .i64) x374))]) ?_ ?_
                                    · refine TC_reg ?_
                                      refine TL_ev env 5 rfl ⟨trivial, ⟨⟨trivial, trivial⟩, ⟨trivial, ⟨⟨trivial, ⟨trivial, trivial⟩⟩, ⟨trivial, trivial⟩⟩⟩⟩⟩ ?_
                                      refine TL_split 180 rfl (fun hb => ?_) (fun hb => ?_)
                                      · replace h3 := bif_t h3 hb
                                        refine TL_gf (.bool false) rfl rfl rfl rfl rfl (by decide) ?_
                                        refine TL_gf (.bool false) rfl rfl rfl rfl rfl (by decide) ?_
                                        refine TL_gf (.bool false) rfl rfl rfl rfl rfl (by decide) ?_
                                        refine TL_gf (.bool false) rfl rfl rfl rfl rfl (by decide) ?_
                                        refine TL_ev env 1 rfl ⟨⟨trivial, ⟨trivial, fun e => e⟩⟩, trivial⟩ ?_
                                        refine TL_end ?_
                                        obtain rfl := sinj h3
                                        refine tsn ?_
                                        exact SP_ren [(17300, 15900), (17301, 15901), (17302, 15902), (17303, 15903), (17304, 15904), (17305, 15905), (17306, 15906), (17307, 15907)] _ rfl ⟨rfl, rfl, rfl, rfl, rfl, rfl, rfl, rfl, rfl, rfl, rfl, rfl, rfl, rfl, rfl, trivial⟩ ⟨rfl, rfl, rfl, rfl, rfl, rfl, rfl, rfl, trivial⟩ rfl
                                      · replace h3 := bif_f h3 hb
                                        refine TL_gt rfl rfl rfl rfl ?_
                                        refine TL_ev env 1 rfl ⟨trivial, trivial⟩ ?_
                                        refine TL_gt rfl rfl rfl rfl ?_
                                        refine TL_ev env 1 rfl ⟨trivial, trivial⟩ ?_
                                        refine TL_gt rfl rfl rfl rfl ?_
                                        obtain ⟨r462, hr, h3⟩ := bnd h3
                                        refine TL_callB [] (psalteryref04_Same_3.ok0 hr) psalteryref04_Same_3.fnb rfl ⟨trivial, ⟨trivial, ⟨trivial, trivial⟩⟩⟩ rfl trivial rfl ?_
                                        refine TL_gt rfl rfl rfl rfl ?_
                                        refine TL_ev env 2 rfl ⟨trivial, ⟨⟨trivial, ⟨trivial, trivial⟩⟩, trivial⟩⟩ ?_
                                        refine TL_end ?_
                                        obtain rfl := sinj h3
                                        refine tsn ?_
                                        exact SP_ren [(17300, 15900), (17301, 15901), (17302, 15902), (17303, 15903), (17304, 15904), (17305, 15905), (17306, 15906), (17307, 15907)] _ rfl ⟨rfl, rfl, rfl, rfl, rfl, rfl, rfl, rfl, rfl, rfl, rfl, rfl, rfl, rfl, rfl, trivial⟩ ⟨rfl, rfl, rfl, rfl, rfl, rfl, rfl, rfl, trivial⟩ rfl
                                    · rintro x460 hz
                                      obtain rfl := hz.symm
                                      refine TE_go ?_
                                      refine TC_cond rfl (fun hb => ?_) (fun hb => ?_)
                                      · replace h2 := bif_t h2 hb
                                        refine TC_seq ?_
                                        refine TC_reg ?_
                                        refine TL_ev env 1 rfl ⟨trivial, trivial⟩ ?_
                                        refine TL_end ?_
                                        refine TE_go ?_
                                        refine TC_ret ?_
                                        refine tbr ?_
                                        refine tsr ?_
                                        refine tsr ?_
                                        refine tsr ?_
                                        refine tbr ?_
                                        refine tsr ?_
                                        refine tsr ?_
                                        obtain rfl := sinj h2
                                        obtain rfl := sinj h1
                                        obtain rfl := sinj h0
                                        exact TE_ret env rfl trivial trivial
                                      · replace h2 := bif_f h2 hb
                                        refine TC_skip ?_
                                        refine tbn ?_
                                        obtain rfl := sinj h2
                                        refine tsn ?_
                                        exact SP_ren [(17000, 17300), (17001, 17301), (17002, 17302), (17003, 17303), (17004, 17304), (17005, 17305), (17006, 17306), (17007, 17307)] (_, _, _, _, _, _, _, _) rfl ⟨rfl, rfl, rfl, rfl, rfl, rfl, rfl, rfl, rfl, rfl, rfl, rfl, rfl, rfl, trivial⟩ ⟨rfl, rfl, rfl, rfl, rfl, rfl, rfl, rfl, trivial⟩ rfl
                                  · refine TL_callB [(0, 15903), (1, 15907)] (poly_Joiner_Feed_2.ok1 hr) poly_Joiner_Feed_2.fnb rfl ⟨trivial, ⟨trivial, ⟨trivial, trivial⟩⟩⟩ rfl ⟨.inr rfl, .inr rfl, trivial⟩ rfl ?_
                                    refine TL_ev env 5 rfl ⟨trivial, ⟨trivial, ⟨trivial, ⟨trivial, ⟨trivial, trivial⟩⟩⟩⟩⟩ ?_
                                    refine TL_end ?_
                                    refine TE_go ?_
                                    refine TC_seq ?_
                                    obtain ⟨z3, h3, h2⟩ := bnd h2
                                    refine TC_cut (α := Bool) (fun s => z3 = s) (fun s => [(7, .int .i64 x173), (8, .p 17400 0), (10, .p 17401 0), (12, .p 17402 0), (14, .p 17403 0), (134, .im (.slice (.slice (.int .i16))) r272), (135, .int .i64 (r272.length : Int)), (136, .int .i64 x370), (155, .int .i64 0), (156, .bool false), (159, .im (.slice (.int .i32)) r441), (160, .im (.slice (.int .i32)) r445), (161, .bool r448), (162, .bool (!r448)), (185, .bool s)]) (fun s => [(17400, some (.cells [.int .i64 x173, .im (.slice (.int .i16)) r180, .im (.slice (.int .i16)) r181, .sl 17404])), (17401, some (.cells [.int .i64 x173, .im (.slice (.int .i16)) r189, .im (.slice (.int .i16)) r190, .sl 17405])), (17402, some (.cells [.int .i64 x173, .im (.slice (.int .i16)) r198, .im (.slice (.int .i16)) r199, .sl 17406])), (17403, some (.cells [.int .i64 x173, .im (.slice (.int .i16)) r207, .im (.slice (.int .i16)) r208, .sl 17407])), (17404, some (.rows (.int .i64) r442)), (17405, some (.rows (.int .i64) r446)), (17406, some (.rows (.int .i64) r450)), (17407, some (.rows (.int .i64) r458))]) ?_ ?_
                                    · refine TC_reg ?_
                                      refine TL_ev env 5 rfl ⟨trivial, ⟨⟨trivial, trivial⟩, ⟨trivial, ⟨⟨trivial, ⟨trivial, trivial⟩⟩, ⟨trivial, trivial⟩⟩⟩⟩⟩ ?_
                                      refine TL_split 180 rfl (fun hb => ?_) (fun hb => ?_)
                                      · replace h3 := bif_t h3 hb
                                        refine TL_gf (.bool false) rfl rfl rfl rfl rfl (by decide) ?_
                                        refine TL_gf (.bool false) rfl rfl rfl rfl rfl (by decide) ?_
                                        refine TL_gf (.bool false) rfl rfl rfl rfl rfl (by decide) ?_
                                        refine TL_gf (.bool false) rfl rfl rfl rfl rfl (by decide) ?_
                                        refine TL_ev env 1 rfl ⟨⟨trivial, ⟨trivial, fun e => e⟩⟩, trivial⟩ ?_
                                        refine TL_end ?_
                                        obtain rfl := sinj h3
                                        refine tsn ?_
                                        exact SP_ren [(17400, 15900), (17401, 15901), (17402, 15902), (17403, 15903), (17404, 15904), (17405, 15905), (17406, 15906), (17407, 15907)] _ rfl ⟨rfl, rfl, rfl, rfl, rfl, rfl, rfl, rfl, rfl, rfl, rfl, rfl, rfl, rfl, rfl, trivial⟩ ⟨rfl, rfl, rfl, rfl, rfl, rfl, rfl, rfl, trivial⟩ rfl
                                      · replace h3 := bif_f h3 hb
                                        refine TL_gt rfl rfl rfl rfl ?_
                                        refine TL_ev env 1 rfl ⟨trivial, trivial⟩ ?_
                                        refine TL_gt rfl rfl rfl rfl ?_
                                        refine TL_ev env 1 rfl ⟨trivial, trivial⟩ ?_
                                        refine TL_gt rfl rfl rfl rfl ?_
                                        obtain ⟨r466, hr, h3⟩ := bnd h3
                                        refine TL_callB [] (psalteryref04_Same_4.ok0 hr) psalteryref04_Same_4.fnb rfl ⟨trivial, ⟨trivial, ⟨trivial, trivial⟩⟩⟩ rfl trivial rfl ?_
                                        refine TL_gt rfl rfl rfl rfl ?_
                                        refine TL_ev env 2 rfl ⟨trivial, ⟨⟨trivial, ⟨trivial, trivial⟩⟩, trivial⟩⟩ ?_
                                        refine TL_end ?_
                                        obtain rfl := sinj h3
                                        refine tsn ?_
                                        exact SP_ren [(17400, 15900), (17401, 15901), (17402, 15902), (17403, 15903), (17404, 15904), (17405, 15905), (17406, 15906), (17407, 15907)] _ rfl ⟨rfl, rfl, rfl, rfl, rfl, rfl, rfl, rfl, rfl, rfl, rfl, rfl, rfl, rfl, rfl, trivial⟩ ⟨rfl, rfl, rfl, rfl, rfl, rfl, rfl, rfl, trivial⟩ rfl
                                    · rintro x464 hz
                                      obtain rfl := hz.symm
                                      refine TE_go ?_
                                      refine TC_cond rfl (fun hb => ?_) (fun hb => ?_)
                                      · replace h2 := bif_t h2 hb
                                        refine TC_seq ?_
                                        refine TC_reg ?_
                                        refine TL_ev env 1 rfl ⟨trivial, trivial⟩ ?_
                                        refine TL_end ?_
                                        refine TE_go ?_
                                        refine TC_ret ?_
                                        refine tbr ?_
                                        refine tsr ?_
                                        refine tsr ?_
                                        refine tsr ?_
                                        refine tbr ?_
                                        refine tsr ?_
                                        refine tsr ?_
                                        obtain rfl := sinj h2
                                        obtain rfl := sinj h1
                                        obtain rfl := sinj h0
                                        exact TE_ret env rfl trivial trivial
                                      · replace h2 := bif_f h2 hb
                                        refine TC_skip ?_
                                        refine tbn ?_
                                        obtain rfl := sinj h2
                                        refine tsn ?_
                                        exact SP_ren [(17000, 17400), (17001, 17401), (17002, 17402), (17003, 17403), (17004, 17404), (17005, 17405), (17006, 17406), (17007, 17407)] (_, _, _, _, _, _, _, _) rfl ⟨rfl, rfl, rfl, rfl, rfl, rfl, rfl, rfl, rfl, rfl, rfl, rfl, rfl, rfl, trivial⟩ ⟨rfl, rfl, rfl, rfl, rfl, rfl, rfl, rfl, trivial⟩ rfl
                        · rintro ⟨x431, x432, x433, x434, x435, x436, x437, x438⟩ rfl
                          refine TE_go ?_
                          refine TC_reg ?_
                          refine TL_ev env 2 rfl ⟨⟨trivial, ⟨trivial, trivial⟩⟩, ⟨trivial, trivial⟩⟩ ?_
                          refine TL_end ?_
                          refine tsn ?_
                          exact TE_nextr [(15900, 17000), (15901, 17001), (15902, 17002), (15903, 17003), (15904, 17004), (15905, 17005), (15906, 17006), (15907, 17007)] n (Nat.lt_succ_self n) (_, _, _, _, _) h1 ⟨rfl, rfl, rfl, rfl, rfl, rfl, rfl, rfl, trivial⟩ ⟨rfl, rfl, rfl, rfl, rfl, rfl, rfl, rfl, trivial⟩ rfl
                      · replace h1 := bif_f h1 hb
                        refine TC_exit ?_
                        refine tsx ?_
                        refine tsx ?_
                        refine tbe ?_
                        obtain rfl := sinj h1
                        refine tsn ?_
                        exact SP_ren [] () rfl trivial trivial rfl
                    · rintro ⟨⟩ rfl
                      refine TE_go ?_
                      refine TC_seq ?_
                      refine TC_reg ?_
                      refine TL_ev env 1 rfl ⟨trivial, trivial⟩ ?_
                      refine TL_end ?_
                      refine TE_go ?_
                      refine TC_ret ?_
                      obtain rfl := sinj h0
                      exact TE_ret env rfl trivial trivial
theorem psalterylaw08_PolyForgets.ok0 {K : Nat} {p0 : Bool} {p1 : List (Int)} {p2 : List (Int)} {q0 : Bool} (h0 : psalterylaw08_PolyForgets K p0 p1 p2 = some q0) : Fn Try.prog 6 [.bool p0, .im (.slice (.int .i16)) p1, .im (.slice (.int .i16)) p2] [] (.bool q0) [] := psalterylaw08_PolyForgets.ok h0
theorem psalterylaw08_PolyForgets.fnb : fnb Try.prog 6 = true := fnb_of Try.func6 rfl
end Go.Fo
