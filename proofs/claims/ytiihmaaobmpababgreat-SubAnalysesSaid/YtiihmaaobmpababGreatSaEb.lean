/- The frame that is laid,exactly. -/
import Derived.Test.YtiihmaaobmpababGreatSaEa
namespace Go.Fo
set_option maxRecDepth 6000
-- widths
def fz (z:Int->Int) (C c n:Nat):Nat:=(List.range n).foldl (fun a b:Nat=>a+(z ((b*C+c:Nat):Int)).toNat) 0
def gH (p1 p2 p3 p4 p5 p6 p7 s:Int):List (Int × Int):=[(156,8)]++gn p1 p2 p3 p4 p5 p6 p7++[(s,8)]
end Go.Fo
