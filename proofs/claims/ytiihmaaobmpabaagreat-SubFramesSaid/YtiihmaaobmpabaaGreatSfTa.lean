/- A check of 8 bits. -/
import Derived.Test.YtiihmaaobmpabaaGreatSfF
namespace Go.Fo
set_option maxRecDepth 6000
def nx (s b:Nat):Nat:=(2*s%256) ^^^ (29*((s/128+b)%2))
theorem nxB:((List.range 256).all fun s=>(List.range 2).all fun b=>(nx s b%2==(s/128+b)%2)&&decide (nx s b<256))=true:=by kernel_rfl
theorem Ho {s b:Nat} (hs:s<256) (hb:b<2):nx s b%2=(s/128+b)%2/\nx s b<256:=by
 have h:=List.all_eq_true.mp (List.all_eq_true.mp nxB s (List.mem_range.mpr hs)) b (List.mem_range.mpr hb)
 have h:=Bool.and_eq_true_iff.mp h
 exact ⟨beq_iff_eq.mp h.1,of_decide_eq_true h.2⟩
def crc (s:Nat) (l:List Nat):Nat:=l.foldl nx s
def Bn (l:List Nat):Prop:=∀ b∈l,b<2
theorem Ys:∀ (l:List Nat) {s:Nat},s<256->Bn l->crc s l<256
 | [],_,hs,_=>hs
 | b::l,s,hs,hl=>Ys l (Ho hs (hl b (List.mem_cons_self ..))).2 (fun c hc=>hl c (List.mem_cons_of_mem _ hc))
theorem Yi (s:Nat) (l m:List Nat):crc s (l++m)=crc (crc s l) m:=by unfold crc; rw [List.foldl_append]
end Go.Fo
