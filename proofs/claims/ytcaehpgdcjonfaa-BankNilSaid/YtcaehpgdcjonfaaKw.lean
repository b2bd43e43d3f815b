/- The evaluator's own words, for 'simp only [go_sem]'. -/
import Derived.Test.YtcaehpgdcjonfaaKv
namespace Go.Fo
attribute [go_sem] get getO opd ofc opg opgs strip impl pickM eqm eq1 eqL shp isEq binM bin ibin unM fieldAddrM fieldM one shutM loadM indexAddrM intsM indexM lenM foldMin foldMax mvcells solid fillM buildM sliceM oint partsM pureD Kd.flat Kd.at Kd.n rowsM hdM srcM heapD Kd.upd1 Kd.updL cellm evalN freshA freshL MV.has MV.hasL MObj.has initA addL MV.ren MV.renL MObj.ren renO
end Go.Fo
