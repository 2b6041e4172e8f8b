/- The contract of image.Put, as the printer wants it. Condition: texts are no longer than texts can be. -/
import Derived.Test.YtolpnbeepiblkaaHRight
import Derived.Test.YtolpnbeepiblkaaImagePut
namespace Go.Proofs.Ytolpnbeepiblkaa.Pr
open Go.RowKit Go.Proofs.YtolpnbeepiblkaaW.PrintWords Go.Proofs.YtolpnbeepiblkaaW.PrintLast Go.Proofs.Ytolpnbeepiblkaa
set_option linter.unusedVariables false
def image_Put.f (a0_0 : Int) (a0_1 : Int) (a0_2 : Int) (l0_3 : List SC) : Option (ByteArray × Int) := if l0_3.length ≤ maxLen ∧ sizedC l0_3 = true then some (putR a0_0 a0_1 a0_2 (prs l0_3)) else none
theorem image_Put.calls (a0_0 : Int) (a0_1 : Int) (a0_2 : Int) (A0_3 : Option Addr) (c0_3 : Nat) (l0_3 : List SC) (r1 : ByteArray) (r2 : Int) (w : World) (hr0_3 : Kd.C kC w A0_3 l0_3.length l0_3) (hc0_3 : l0_3.length ≤ c0_3) (h : image_Put.f a0_0 a0_1 a0_2 l0_3 = some (r1, r2)) :
    Calls Try.prog 10 #[.agg #[.int .i64 a0_0, .int .i64 a0_1, .int .i64 a0_2, .slice A0_3 l0_3.length c0_3]] w fun e w' => e = .returned (.tuple #[.string r1, .int .i64 r2]) ∧ Below w.heap.size w w' := by
  unfold image_Put.f at h
  by_cases hc : l0_3.length ≤ maxLen ∧ sizedC l0_3 = true
  · rw [if_pos hc] at h
    have h := Option.some.inj h
    have := iput_any A0_3 l0_3.length c0_3 a0_0 a0_1 a0_2 (prs l0_3) w hc.1 (crow_of_C hr0_3 hc.2)
    rw [h] at this
    exact this
  · rw [if_neg hc] at h; cases h
end Go.Proofs.Ytolpnbeepiblkaa.Pr
