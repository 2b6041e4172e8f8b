/- The contract of rootcellarref2.Put, as the printer wants it. Condition: the number is one of 64 bits. -/
import Derived.Test.YtolpnbeepiblkaaHBase
import Derived.Test.YtolpnbeepiblkaaRefLe
namespace Go.Proofs.Ytolpnbeepiblkaa.Pr
open Go.RowKit Go.Proofs.Ytolpnbeepiblkaa
def rootcellarref2_Put.f (a0 : Int) (a1 : Int) : Option (ByteArray) := if 0 ≤ a0 ∧ a0 < 18446744073709551616 then some ⟨(LeP.bytes (clamp8 a1) a0.toNat).toArray⟩ else none
theorem rootcellarref2_Put.calls (a0 : Int) (a1 : Int) (r : ByteArray) (w : World) (h : rootcellarref2_Put.f a0 a1 = some r) :
    Calls Try.prog 28 #[.int .u64 a0, .int .i64 a1] w fun e w' => e = .returned (.string r) ∧ Below w.heap.size w w' := by
  obtain ⟨⟨h0, h1⟩, rfl⟩ : (0 ≤ a0 ∧ a0 < 18446744073709551616) ∧ (⟨(LeP.bytes (clamp8 a1) a0.toNat).toArray⟩ : ByteArray) = r := by simpa [rootcellarref2_Put.f] using h
  have := rput_any a0.toNat a1 (by omega) w
  rwa [show ((a0.toNat : Nat) : Int) = a0 by omega] at this
end Go.Proofs.Ytolpnbeepiblkaa.Pr
