/- Lists of numbers laid; numbers taken,exactly. -/
import Derived.Test.YtiihmaaobmpababGreatSaBa
namespace Go.Fo
set_option maxRecDepth 6000
def gL (q:Int × Int):Prop:=0<=q.2/\q.2<=32/\0<=q.1/\q.1<2^q.2.toNat
def bns (l:List (Int × Int)):List Int:=l.flatMap fun q=>bn q.1 q.2.toNat
def wid (l:List (Int × Int)):Nat:=(bns l).length
def num (l:List Int):Int:=l.foldl (fun a b=>2*a+b) 0
def gM (M:List Int) (x k n:Nat):List Int:=(List.range n).map fun i=>num ((List.range k).map fun t=>b1 M (x+i*k+t))
end Go.Fo
