/- Words between printed kinds and walks by hand: a slice of cells that is read, cell by cell. No conditions. -/
import Derived.Test.YtbeloaccgmgocaaPrx0
import Derived.Test.YtbeloaccgmgocaaWords
import Derived.Test.YtbeloaccgmgocaaChecked
namespace Go.Proofs.Ytbeloaccgmgocaa.Pr
open Go.RowKit Go.Proofs.YtbeloaccgmgocaaW.PrintWords Go.Proofs.YtbeloaccgmgocaaW.PrintLast
abbrev SC := S67
abbrev kC := k67
theorem lift_addr {w : World} {a : Addr} {v : Value} (h : w.cell? a = some v) : a.spot = none := World.cell?_spot h
/-- a slice of cells, cell by cell -/
def CellsAt (w : World) (A : Option Addr) (l : List SC) : Prop :=
  0 < l.length → ∃ b off, A = some ⟨b, off, none⟩ ∧ b < w.heap.size ∧ ∀ i (h : i < l.length), w.cell? ⟨b, off + i * 2, none⟩ = some (.int .i64 l[i].f0) ∧ w.cell? ⟨b, off + i * 2 + 1, none⟩ = some (.string l[i].f1)
theorem cellsAt_of_C {w : World} {A : Option Addr} {l : List SC} (h : Kd.C kC w A l.length l) : CellsAt w A l := by
  intro hp
  have hall : ∀ i (hi : i < l.length), ∃ ad, A = some ad ∧ w.cell? (ad.add (i * 2)) = some (.int .i64 l[i].f0) ∧ w.cell? ⟨(ad.add (i * 2)).block, (ad.add (i * 2)).off + 1, none⟩ = some (.string l[i].f1) := by
    intro i hi
    obtain ⟨ad, e, h0, h1⟩ := at_T67 h (i : Int) (by omega) (by omega)
    have hr : rd_T67 l (i : Int) = l[i] := by
      unfold rd_T67
      rw [Int.toNat_natCast, List.getD_eq_getElem?_getD, List.getElem?_eq_getElem hi]; rfl
    rw [hr, Int.toNat_natCast] at h0 h1
    exact ⟨ad, e, h0, h1⟩
  obtain ⟨a, ha, h00, _⟩ := hall 0 hp
  have hs : a.spot = none := by
    have h1 := World.cell?_spot h00
    unfold Addr.add at h1
    rw [if_pos (by omega)] at h1
    exact h1
  obtain ⟨b, off, spot⟩ := a
  simp only at hs
  subst hs
  have had : ∀ j, (⟨b, off, none⟩ : Addr).add j = ⟨b, off + j, none⟩ := fun j => by unfold Addr.add; split <;> simp_all
  refine ⟨b, off, ha, ?_, fun i hi => ?_⟩
  · rw [had] at h00; exact block_lt_of_cell h00
  · obtain ⟨ad, e, h0, h1⟩ := hall i hi
    rw [ha] at e
    obtain rfl := Option.some.inj e
    rw [had] at h0 h1
    exact ⟨h0, h1⟩
theorem CellsAt.below {w w' : World} {A : Option Addr} {l : List SC} (h : CellsAt w A l) (hb : Below w.heap.size w w') : CellsAt w' A l := fun hp => by
  obtain ⟨b, off, ha, hlt, hc⟩ := h hp
  exact ⟨b, off, ha, Nat.lt_of_lt_of_le hlt hb.size, fun i hi => ⟨(hb.cell (p := ⟨b, off + i * 2, none⟩) hlt).trans (hc i hi).1, (hb.cell (p := ⟨b, off + i * 2 + 1, none⟩) hlt).trans (hc i hi).2⟩⟩
theorem C_length_le {w : World} {A : Option Addr} {l : List SC} (h : Kd.C kC w A l.length l) : l.length ≤ 9223372036854775807 := h.2.1
end Go.Proofs.Ytbeloaccgmgocaa.Pr
