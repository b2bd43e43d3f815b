/- Frames that come back. -/
import Derived.Test.YtiihmaaobmpababGreatSaEe
namespace Go.Fo
set_option maxRecDepth 6000
end Go.Fo
