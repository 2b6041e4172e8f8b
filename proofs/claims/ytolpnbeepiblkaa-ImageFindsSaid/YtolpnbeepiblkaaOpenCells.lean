/- An argument that is a cell.Image, or holds one: what its cells are. -/
import Derived.Test.YtolpnbeepiblkaaCellRight
import Derived.Deep.SlicePairs
import Derived.ChangeArms
import Derived.ChangeSame
namespace Go.Proofs.Ytolpnbeepiblkaa
open Go.RowKit Go.Deep Go.ChangeShapes Go.WideShapes
section
variable {H : Type} {enc : TypeId × Value → H} {W : World}
theorem open_slice_cells {fuel : Nat} {c : Value} {x : DataW H × List MemPlace} (h : DataW.trod enc Try.prog W 0 (fun _ => true) true fuel 22 [c] = some x) :
    ∃ (A : Option Addr) (len cap : Nat) (cs : List C), c = .slice A len cap ∧ len ≤ maxLen ∧ CRow W A len cs ∧ len ≤ cap := by
  rcases open_slice_pairs Try.underlying22 Try.underlying33 (by kernel_rfl) rfl rfl (by kernel_rfl) (by kernel_rfl) h with ⟨hc, _⟩ | ⟨a, len, cap, m, n, V0, V1, D0, D1, P0, P1, hcs, _, hl, hm, hmm, hx, hi⟩
  · simp at hc
    exact ⟨none, 0, 0, [], hc, by unfold maxLen; omega, ⟨rfl, by simp, fun h => by omega⟩, Nat.le_refl _⟩
  · simp at hcs
    have hmc : m = cap := by rw [hmm]; rfl
    have each : ∀ i, i < len → ∃ q : C, V0 i = .int .i64 q.1 ∧ V1 i = .string q.2 ∧ q.2.size ≤ maxLen := by
      intro i hil
      obtain ⟨h0, h1, t0, t1⟩ := hi i (by omega)
      obtain ⟨z, e0, _, _⟩ := DataW.trod_int Try.underlying3 t0
      obtain ⟨s, e1, _, hs⟩ := DataW.trod_string Try.underlying9 t1
      exact ⟨(z, s), by simpa using e0, by simpa using e1, hs⟩
    obtain ⟨f, hf⟩ := choose_lt each
    refine ⟨some a, len, cap, (List.range len).map f, hcs, by omega, ⟨by simp, ?_, ?_⟩, by omega⟩
    · intro q hq
      obtain ⟨i, hir, rfl⟩ := List.mem_map.1 hq
      exact (hf i (by simpa using hir)).2.2
    · intro hp
      have h00 := (hi 0 (by omega)).1
      have hs : a.spot = none := by
        have h1 := World.cell?_spot h00
        unfold Addr.add at h1
        rw [if_pos (by omega)] at h1
        exact h1
      obtain ⟨b, off, spot⟩ := a
      simp only at hs
      subst hs
      have had : ∀ j, (⟨b, off, none⟩ : Addr).add j = ⟨b, off + j, none⟩ := fun j => by unfold Addr.add; split <;> simp_all
      refine ⟨b, off, rfl, ?_, fun i hil => ?_⟩
      · rw [had] at h00; exact block_lt_of_cell h00
      · have hil' : i < len := by simpa using hil
        obtain ⟨h0, h1, _, _⟩ := hi i (by omega)
        obtain ⟨e0, e1, _⟩ := hf i hil'
        rw [had] at h0 h1
        rw [← Nat.add_assoc] at h1
        simp only [List.getElem_map, List.getElem_range]
        rw [h0, h1, e0, e1]
        exact ⟨rfl, rfl⟩
theorem open_image_cells {fuel : Nat} {c0 c1 : Value} {x : DataW H × List MemPlace} (h : DataW.trod enc Try.prog W 0 (fun _ => true) true fuel 24 [c0, c1] = some x) :
    ∃ (clusters : Int) (A : Option Addr) (len cap : Nat) (cs : List C), c0 = .int .i64 clusters ∧ c1 = .slice A len cap ∧ (Lit.int .i64 clusters).wf = true ∧ len ≤ maxLen ∧ CRow W A len cs ∧ len ≤ cap := by
  obtain ⟨xs, n, _, hx, _, hlen, hg⟩ := DataW.trod_struct Try.underlying24 h
  have t0 : DataW.trod enc Try.prog W 0 (fun _ => true) true n 3 (([c0, c1].drop 0).take (Try.prog.cellsOf 3)) = xs[0]? := hg 0 _ rfl
  have t1 : DataW.trod enc Try.prog W 0 (fun _ => true) true n 22 (([c0, c1].drop 1).take (Try.prog.cellsOf 22)) = xs[1]? := hg 1 _ rfl
  have hlen' : xs.length = 2 := hlen
  rw [show xs[0]? = some (xs[0]'(by omega)) from List.getElem?_eq_getElem _] at t0
  rw [show xs[1]? = some (xs[1]'(by omega)) from List.getElem?_eq_getElem _] at t1
  rw [show Try.prog.cellsOf 3 = 1 by kernel_rfl] at t0
  rw [show Try.prog.cellsOf 22 = 1 by kernel_rfl] at t1
  obtain ⟨z, e0, _, hw⟩ := DataW.trod_int Try.underlying3 t0
  obtain ⟨A, len, cap, cs, e1, hl, hr⟩ := open_slice_cells (c := c1) t1
  exact ⟨z, A, len, cap, cs, by simpa using e0, e1, hw, hl, hr⟩
end
end Go.Proofs.Ytolpnbeepiblkaa
