/- The contract of image.Right, as the printer wants it. Condition: texts are no longer than texts can be. -/
import Derived.Test.YtolpnbeepiblkaaHRight
import Derived.Test.YtolpnbeepiblkaaImageRight
namespace Go.Proofs.Ytolpnbeepiblkaa.Pr
open Go.RowKit Go.Proofs.YtolpnbeepiblkaaW.PrintWords Go.Proofs.YtolpnbeepiblkaaW.PrintLast Go.Proofs.Ytolpnbeepiblkaa
set_option linter.unusedVariables false
def image_Right.f (a0_0 : Int) (a0_1 : Int) (a0_2 : Int) (l0_3 : List SC) : Option (Bool) := if l0_3.length ≤ maxLen ∧ sizedC l0_3 = true then some (frB a0_0 a0_1 a0_2 (prs l0_3)) else none
theorem image_Right.calls (a0_0 : Int) (a0_1 : Int) (a0_2 : Int) (A0_3 : Option Addr) (c0_3 : Nat) (l0_3 : List SC) (r : Bool) (w : World) (hr0_3 : Kd.C kC w A0_3 l0_3.length l0_3) (hc0_3 : l0_3.length ≤ c0_3) (h : image_Right.f a0_0 a0_1 a0_2 l0_3 = some r) :
    Calls Try.prog 14 #[.agg #[.int .i64 a0_0, .int .i64 a0_1, .int .i64 a0_2, .slice A0_3 l0_3.length c0_3]] w fun e w' => e = .returned (.bool r) ∧ Below w.heap.size w w' := by
  obtain ⟨⟨hl, hs⟩, rfl⟩ : (l0_3.length ≤ maxLen ∧ sizedC l0_3 = true) ∧ frB a0_0 a0_1 a0_2 (prs l0_3) = r := by simpa [image_Right.f] using h
  exact iright_any A0_3 l0_3.length c0_3 a0_0 a0_1 a0_2 (prs l0_3) w hl (crow_of_C hr0_3 hs)
end Go.Proofs.Ytolpnbeepiblkaa.Pr
