/- The contract of rootcellarref3.Put, as the printer wants it. Condition: the sealed text is no longer than texts can be. -/
import Derived.Test.YtolpnbeepiblkaaHBase
import Derived.Test.YtolpnbeepiblkaaRefSealC
namespace Go.Proofs.Ytolpnbeepiblkaa.Pr
open Go.RowKit Go.Proofs.Ytolpnbeepiblkaa
def rootcellarref3_Put.f (a0 : ByteArray) : Option (ByteArray) := if a0.size + 4 ≤ maxLen then some (bs (sealed a0.data.toList)) else none
theorem rootcellarref3_Put.calls (a0 : ByteArray) (r : ByteArray) (w : World) (h : rootcellarref3_Put.f a0 = some r) :
    Calls Try.prog 19 #[.string a0] w fun e w' => e = .returned (.string r) ∧ Below w.heap.size w w' := by
  obtain ⟨h0, rfl⟩ : a0.size + 4 ≤ maxLen ∧ bs (sealed a0.data.toList) = r := by simpa [rootcellarref3_Put.f] using h
  exact rsput_any a0 h0 w
end Go.Proofs.Ytolpnbeepiblkaa.Pr
