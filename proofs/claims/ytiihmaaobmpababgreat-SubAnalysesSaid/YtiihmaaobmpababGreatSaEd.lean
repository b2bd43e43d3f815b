/- What is laid is taken again. -/
import Derived.Test.YtiihmaaobmpababGreatSaEc
namespace Go.Fo
set_option maxRecDepth 6000
def upto (B:List (List Int)) (C:Nat) (c:Int):List (List Int):=(List.range C).map fun q:Nat=>if (q:Int)<c then row B q else []
end Go.Fo
