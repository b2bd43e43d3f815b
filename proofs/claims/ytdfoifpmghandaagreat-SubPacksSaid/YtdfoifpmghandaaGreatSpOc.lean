/- Frames are packed,whatever comes. -/
import Derived.Test.YtdfoifpmghandaaGreatSpOb
namespace Go.Fo
set_option maxRecDepth 6000
theorem head_ok (p0 p1 p2 p3 p4 p5 p6 p7 p8 p9 : Int) : Ok (fun l=>l.length ≤ 10) (subband_head 5000 p0 p1 p2 p3 p4 p5 p6 p7 p8 p9):=by
 refine Ok.bind (Q:=fun _=>True) (Ok.ite (fun _=>Ok.some trivial) (fun _=>Ok.some trivial)) ?_
 intro r _
 exact Ok.some (by show 6 ≤ 10; omega)
theorem new_w {n : Int} (h0 : 0 ≤ n) (h1 : n ≤ 512) : bits_New 5000 n = some (.inr (List.replicate n.toNat 0)) :=
 bif_eq_f (decide_eq_false (by omega)) (bif_eq_f (decide_eq_false (by omega)) (gd_eq ⟨h0,by omega,by omega⟩ rfl))
theorem payZ_in (p0 p1 p2 p3 p4 p5 p6 p7 p8 p9 : Int) (hm : may0 p0 p1 p2 p3 p4 p5 p6 p7 p8 p9) : 7 ≤ payZ p2 p3 p4 p6 p7 ∧ payZ p2 p3 p4 p6 p7 ≤ 512:=by
 have:=bitsZ_in p0 p1 p2 p3 p4 p5 p6 p7 p8 p9 hm.1
 have:=hm.2
 unfold payZ; omega
end Go.Fo
