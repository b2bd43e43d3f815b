/- Bytes of strings, by hand: where one is, and how often. -/
import Derived.Test.YtphienllhdoenaaDoorProg
import Derived.Tactics
import Derived.Tactics2
import Derived.WalkKit
import Derived.Laws.Externs
import Derived.Laws.StandIn
import Derived.Lib.Bytealg
import Derived.KernelRfl
import Derived.Test.YtphienllhdoenaaDoorJ3
namespace Go.Fo
section
open Go.Proofs
set_option maxRecDepth 100000
theorem find_calls (s : ByteArray) (c : Int) (w : World) : Calls Tryd.prog 69 #[.string s, .int .u8 c] w fun e w' => e = .returned (.int .i64 (bfind s c)) ∧ w' = w := by
  have hl : (callFunc 86 #[.string s, .int .u8 c]).run Tryd.prog w = .ok (.value (.int .i64 (bfind s c))) w := by
    rw [run_callFunc_indexByte Tryd.func86 (by kernel_rfl) (by kernel_rfl) (by kernel_rfl) (by kernel_rfl), run_indexByte_string]
    rfl
  go_enter Tryd.func69, Tryd.ntmps69
  go_wp2
  go_ret
  exact ⟨rfl, rfl⟩
theorem count_calls (s t : ByteArray) (ht : t.size = 1) (w : World) : Calls Tryd.prog 52 #[.string s, .string t] w fun e w' => e = .returned (.int .i64 (bcount s (sbyte t 0))) ∧ w' = w := by
  obtain ⟨b, rfl⟩ : ∃ b, t = ⟨#[b]⟩ := by
    obtain ⟨d⟩ := t
    obtain ⟨l⟩ := d
    match l, ht with
    | [b], _ => exact ⟨b, rfl⟩
  have e : sbyte ⟨#[b]⟩ 0 = (((⟨#[b]⟩ : ByteArray)[0]'(Nat.zero_lt_one)).toNat : Int) := rfl
  have hl : (callFunc 75 #[.string s, .int .u8 (((⟨#[b]⟩ : ByteArray)[0]'(Nat.zero_lt_one)).toNat : Int)]).run Tryd.prog w = .ok (.value (.int .i64 (bcount s (((⟨#[b]⟩ : ByteArray)[0]'(Nat.zero_lt_one)).toNat : Int)))) w := by
    rw [run_callFunc_standIn Tryd.func75 (by kernel_rfl) (by kernel_rfl) (by kernel_rfl) (e := Extern.BytealgCount.count) (by kernel_rfl), Go.Lib.run_countString]
    rfl
  rw [e]
  go_enter Tryd.func52, Tryd.ntmps52
  go_wp2
  go_ret
  exact ⟨rfl, rfl⟩
end
section
open Go.Proofs
theorem find_fn {s : ByteArray} {c : Int} : Fn Tryd.prog 69 [.str s, .int .u8 c] [] (.int .i64 (bfind s c)) [] := by
  intro X ρ m w vs hp hv
  obtain ⟨v, us, rfl, hv, v2, us2, rfl, hv2, hus⟩ := hv
  simp only [CvL] at hus; subst hus
  simp only [Cv] at hv hv2; subst hv; subst hv2
  refine (find_calls s c w).mono ?_
  rintro e w' ⟨rfl, rfl⟩
  exact ⟨ρ, m, _, rfl, rfl, hp, Nx.refl .., fun _ _ => rfl⟩
theorem count_fn {s t : ByteArray} (ht : t.size = 1) : Fn Tryd.prog 52 [.str s, .str t] [] (.int .i64 (bcount s (sbyte t 0))) [] := by
  intro X ρ m w vs hp hv
  obtain ⟨v, us, rfl, hv, v2, us2, rfl, hv2, hus⟩ := hv
  simp only [CvL] at hus; subst hus
  simp only [Cv] at hv hv2; subst hv; subst hv2
  refine (count_calls s t ht w).mono ?_
  rintro e w' ⟨rfl, rfl⟩
  exact ⟨ρ, m, _, rfl, rfl, hp, Nx.refl .., fun _ _ => rfl⟩
end
end Go.Fo
