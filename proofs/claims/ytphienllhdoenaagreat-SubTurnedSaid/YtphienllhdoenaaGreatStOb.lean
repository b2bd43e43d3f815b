/- Parameters: what their share says; frames. -/
import Derived.Test.YtphienllhdoenaaGreatStOa
namespace Go.Fo
set_option maxRecDepth 6000
abbrev blk (Q : List (List (List Int))) (i : Int) : List (List Int):=Kd.nth (.slice (.slice (.int .i64))) Q (Int.toNat i)
def Sh (C B : Int) (S : List (List Int)) : Prop:=(S.length : Int) = C ∧ ∀ c,0 ≤ c → c < C → ((row S c).length : Int) = B
def Cd (M C B : Int) (Q : List (List (List Int))) : Prop:=(Q.length : Int) = M ∧ ∀ i,0 ≤ i → i < M → Sh C B (blk Q i)
def Jn (p0 p1 p2 p3 p4 p5 p6 p7 p8 p9 : Int) (J : List Int) : Prop:=(J.length : Int) = p3 ∧ ∀ i,0 ≤ i → i < p3 → at' J i = 0 ∨ (p6 = 1 ∧ at' J i = 1)
def Val (p0 p1 p2 p3 p4 p5 p6 p7 p8 p9 : Int) (J : List Int) (S : List (List Int)) (Q : List (List (List Int))) (sh : List (List Int)) : Prop :=
  Fit p0 p1 p2 p3 p4 p5 p6 p7 p8 p9 S ∧ Jn p0 p1 p2 p3 p4 p5 p6 p7 p8 p9 J ∧ Cd p4 p2 p3 Q ∧ Sh p2 p3 sh ∧ alloc_Share 5000 p0 p1 p2 p3 p4 p5 p6 p7 p8 p9 S = some (sh,0)
theorem share_sh {p0 p1 p2 p3 p4 p5 p6 p7 p8 p9 : Int} {S : List (List Int)} (hf : Fit p0 p1 p2 p3 p4 p5 p6 p7 p8 p9 S) (ha : alloc_may 5000 p0 p1 p2 p3 p4 p5 p6 p7 p8 p9 S = some 0) : ∃ sh,alloc_Share 5000 p0 p1 p2 p3 p4 p5 p6 p7 p8 p9 S = some (sh,0) ∧ Sh p2 p3 sh:=by
 have h2:=(fit hf).2.1
 have h3:=(fit hf).2.2.1
 obtain ⟨a,b,_,_,_,_,_,h,_⟩:=share_w hf ha p2.toNat p3.toNat (by omega) (by omega)
 refine ⟨_,h,by rw [rw_len]; omega,fun c c0 c1=>?_⟩
 obtain ⟨n,rfl⟩ : ∃ n : Nat,c = n:=⟨c.toNat,by omega⟩
 rw [rw_rlen (by omega)]; omega
end Go.Fo
