/- Bytes are parsed,whatever they are. -/
import Derived.Test.YtphienllhdoenaaGreatSbOc
namespace Go.Fo
set_option maxRecDepth 6000
end Go.Fo
