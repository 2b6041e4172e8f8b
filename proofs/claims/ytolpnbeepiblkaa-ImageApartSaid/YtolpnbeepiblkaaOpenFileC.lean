/- An argument that is an image.File, as the printed contracts want it. Conditions: none but that it is an argument. -/
import Derived.Test.YtolpnbeepiblkaaOpenFile
import Derived.Test.YtolpnbeepiblkaaOpenImage
namespace Go.Proofs.Ytolpnbeepiblkaa.Pr
open Go.RowKit Go.Deep Go.ChangeShapes Go.WideShapes Go.Proofs.Ytolpnbeepiblkaa Go.Proofs.YtolpnbeepiblkaaW.PrintWords Go.Proofs.YtolpnbeepiblkaaW.PrintLast
theorem open_fileC {H : Type} {enc : TypeId × Value → H} {W : World} {r : Reach} {b0 : Nat} {v : Value} {d : DataW H} {p : List MemPlace} (hv : Value.okWide Try.prog W r b0 26 v) (h : DataW.Trod enc Try.prog W 0 (fun _ => true) true 26 v d p) :
    ∃ (id parent clusters : Int) (A : Option Addr) (cap : Nat) (l : List SC), v = .agg #[.int .i64 id, .int .i64 parent, .int .i64 clusters, .slice A l.length cap] ∧ l.length ≤ cap ∧ Kd.C kC W A l.length l ∧ sizedC l = true := by
  obtain ⟨i, q, z, A, len, cap, cs, e, _, _, _, hl, hr, hcap⟩ := open_file hv h
  have e2 : (ofC cs).length = len := (ofC_length cs).trans hr.1
  exact ⟨i, q, z, A, cap, ofC cs, by rw [e2]; exact e, by omega, C_of_crow hr hl, sized_ofC hr⟩
end Go.Proofs.Ytolpnbeepiblkaa.Pr
