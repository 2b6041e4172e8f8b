/- The contract of the example at the head of layer 10's statements. No conditions. -/
import Derived.Test.YtolpnbeepiblkaaHBase
import Derived.Test.YtolpnbeepiblkaaShown10
namespace Go.Proofs.Ytolpnbeepiblkaa.Pr
open Go.RowKit Go.Proofs.Ytolpnbeepiblkaa
def rootcellarlaw10_shown.f : Option (Bool) := some true
theorem rootcellarlaw10_shown.calls (r : Bool) (w : World) (h : rootcellarlaw10_shown.f = some r) :
    Calls Try.prog 9 #[] w fun e w' => e = .returned (.bool r) ∧ Below w.heap.size w w' := by
  obtain rfl := Option.some.inj h
  exact shown10_any w
end Go.Proofs.Ytolpnbeepiblkaa.Pr
