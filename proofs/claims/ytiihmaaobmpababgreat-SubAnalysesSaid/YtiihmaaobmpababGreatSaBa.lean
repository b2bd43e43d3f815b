/- Bits laid and taken,exactly. -/
import Derived.Test.YtiihmaaobmpababGreatSaOb
namespace Go.Fo
set_option maxRecDepth 6000
abbrev b1 (L:List Int) (i:Nat):Int:=L.getD i 0
def Bit (L:List Int):Prop:=∀ i,b1 L i=0\/b1 L i=1
def pby (L:List Int) (j:Nat):Int:=128*b1 L (8*j)+64*b1 L (8*j+1)+32*b1 L (8*j+2)+16*b1 L (8*j+3)+8*b1 L (8*j+4)+4*b1 L (8*j+5)+2*b1 L (8*j+6)+b1 L (8*j+7)
def pk (n:Nat) (L:List Int):List Int:=(List.range n).map (pby L)
def bn (v:Int) (k:Nat):List Int:=(List.range k).map fun i=>v/2^(k-1-i)%2
theorem Kk {s t:Nat} (h:s<=t):(2:Int)^s<=2^t:=by
 have:=Int.ofNat_le.2 (Nat.pow_le_pow_right (n:=2) (by decide) h)
 rwa [Int.natCast_pow,Int.natCast_pow] at this
end Go.Fo
