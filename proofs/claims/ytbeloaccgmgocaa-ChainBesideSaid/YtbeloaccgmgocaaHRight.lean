/- The contract of cell.Right, as the printer wants it. Condition: texts are no longer than texts can be. -/
import Derived.Test.YtbeloaccgmgocaaHBase
import Derived.Test.YtbeloaccgmgocaaCellRight
namespace Go.Proofs.Ytbeloaccgmgocaa.Pr
open Go.RowKit Go.Proofs.YtbeloaccgmgocaaW.PrintWords Go.Proofs.YtbeloaccgmgocaaW.PrintLast Go.Proofs.Ytbeloaccgmgocaa
set_option linter.unusedVariables false
def prs (l : List SC) : List C := l.map fun x => (x.f0, x.f1)
def sizedC (l : List SC) : Bool := l.all fun x => decide (x.f1.size ≤ maxLen)
theorem crow_of_C {w : World} {A : Option Addr} {l : List SC} (h : Kd.C kC w A l.length l) (hs : sizedC l = true) : CRow w A l.length (prs l) := by
  refine ⟨by simp [prs], ?_, fun hp => ?_⟩
  · intro c hc
    obtain ⟨x, hx, rfl⟩ := List.mem_map.1 hc
    have := List.all_eq_true.1 hs x hx
    simpa using this
  · obtain ⟨b, off, ha, hb, hc⟩ := cellsAt_of_C h hp
    exact ⟨b, off, ha, hb, fun i hi => by simpa [prs] using hc i (by simpa [prs] using hi)⟩
def cell_Right.f (a0_0 : Int) (l0_1 : List SC) : Option (Bool) := if l0_1.length ≤ maxLen ∧ sizedC l0_1 = true then some (rightB a0_0 (prs l0_1)) else none
theorem cell_Right.calls (a0_0 : Int) (A0_1 : Option Addr) (c0_1 : Nat) (l0_1 : List SC) (r : Bool) (w : World) (hr0_1 : Kd.C kC w A0_1 l0_1.length l0_1) (hc0_1 : l0_1.length ≤ c0_1) (h : cell_Right.f a0_0 l0_1 = some r) :
    Calls Try.prog 40 #[.agg #[.int .i64 a0_0, .slice A0_1 l0_1.length c0_1]] w fun e w' => e = .returned (.bool r) ∧ Below w.heap.size w w' := by
  obtain ⟨⟨hl, hs⟩, rfl⟩ : (l0_1.length ≤ maxLen ∧ sizedC l0_1 = true) ∧ rightB a0_0 (prs l0_1) = r := by simpa [cell_Right.f] using h
  exact cright_any A0_1 l0_1.length c0_1 a0_0 (prs l0_1) w hl (crow_of_C hr0_1 hs)
end Go.Proofs.Ytbeloaccgmgocaa.Pr
