/- A frame's bits,as lists. -/
import Derived.Test.YtiihmaaobmpababGreatSaOc
import Derived.Test.YtiihmaaobmpababGreatSaBd
namespace Go.Fo
set_option maxRecDepth 6000
theorem tS {i:Int} (h:0<=i):(i+1).toNat=i.toNat+1:=by omega
def tg (l:List Int) (k:Int):List (Int × Int):=(List.range l.length).map fun i:Nat=>(at' l i,k)
def rz (r w:List Int):List (Int × Int):=(List.range r.length).map fun b:Nat=>(at' r b,at' w b)
def bz (B sh:List (List Int)):List (Int × Int):=(List.range B.length).flatMap fun c:Nat=>rz (row B c) (row sh c)
def GH (sh:List (List Int)) (Q:List (List (List Int))):List (Int × Int):=(List.range Q.length).flatMap fun i:Nat=>bz (blk Q i) sh
def G1 (p6:Int) (J:List Int):List (Int × Int):=if p6=1 then tg J 1 else []
def gq (S:List (List Int)):List (Int × Int):=(List.range S.length).flatMap fun c:Nat=>tg (row S c) 4
def gn (p1 p2 p3 p4 p5 p6 p7:Int):List (Int × Int):=[(p1,2),(p4/4-1,2),(if p2=2 then 2+p6 else 0,2),(p5,1),(p3/4-1,1),(p7,8)]
end Go.Fo
