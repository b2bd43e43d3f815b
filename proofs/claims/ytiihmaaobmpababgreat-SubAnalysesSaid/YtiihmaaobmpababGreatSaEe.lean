/- A packed frame is parsed to what it was packed of. -/
import Derived.Test.YtiihmaaobmpababGreatSaEd
namespace Go.Fo
set_option maxRecDepth 6000
end Go.Fo
