/- Bits are taken and laid; sums; lists of pairs: they come to results. -/
import Derived.Test.YtiihmaaobmpababGreatSaOk
import Derived.Test.YtiihmaaobmpababGreatSaAo
namespace Go.Fo
set_option maxRecDepth 6000
theorem kw1 {x:Int} (h0:-1000000000<=x) (h1:x<=1000000000):wb .i64 (x+1)=x+1:=zY (by omega) (by omega)
end Go.Fo
