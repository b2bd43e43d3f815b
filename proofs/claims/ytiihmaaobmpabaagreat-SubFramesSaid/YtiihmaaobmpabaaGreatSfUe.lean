/- Parameters that may be,says the document. -/
import Derived.Test.YtiihmaaobmpabaaGreatSfUd
namespace Go.Fo
set_option maxRecDepth 6000
def mu (p0 p1 p2 p3 p4 p5 p6 p7 p8 p9:Int) (J:List Int) (S:List (List Int)) (Q:List (List (List Int))):Prop:=∃ C B z,Shr p0 p1 p2 p3 p4 p5 p6 p7 p8 p9 S C B z/\PV p0 p1 p2 p3 p4 p5 p6 p7 p8 p9 J S Q (rw_ C B z)
end Go.Fo
