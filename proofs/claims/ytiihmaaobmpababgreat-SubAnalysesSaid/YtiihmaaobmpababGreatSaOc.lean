/- Frames are packed,whatever comes. -/
import Derived.Test.YtiihmaaobmpababGreatSaOb
namespace Go.Fo
set_option maxRecDepth 6000
end Go.Fo
