/- No stream: the plain fact. -/
import Derived.Test.YtcaehpgdcjonfaaSnF
import Derived.Test.YtcaehpgdcjonfaaN4
import Derived.KernelRfl
namespace Go.Fo
theorem al25 : psalterylaw25_alive 300 = some true := by kernel_rfl
theorem nil25 (n : Int) : psalterylaw25_StreamNil 300 n = some true := bnd_eq al25 rfl
end Go.Fo
