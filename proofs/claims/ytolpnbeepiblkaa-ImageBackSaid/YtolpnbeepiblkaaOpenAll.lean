/- An argument that is a cell.Image or an image.File: what its cells are, as the printed contracts want it. Conditions: none but that it is an argument. -/
import Derived.Test.YtolpnbeepiblkaaCellRight
import Derived.Deep.SlicePairs
import Derived.ChangeArms
import Derived.ChangeSame
import Derived.Test.YtolpnbeepiblkaaHRight
namespace Go.Proofs.Ytolpnbeepiblkaa
open Go.RowKit Go.Deep Go.ChangeShapes Go.WideShapes
section
variable {H : Type} {enc : TypeId × Value → H} {W : World}
theorem open_slice_cells {fuel : Nat} {c : Value} {x : DataW H × List MemPlace} (h : DataW.trod enc Try.prog W 0 (fun _ => true) true fuel 22 [c] = some x) :
    ∃ (A : Option Addr) (len cap : Nat) (cs : List C), c = .slice A len cap ∧ len ≤ maxLen ∧ CRow W A len cs ∧ len ≤ cap := by
  rcases open_slice_pairs Try.underlying22 Try.underlying33 (by kernel_rfl) rfl rfl (by kernel_rfl) (by kernel_rfl) h with ⟨hc, _⟩ | ⟨a, len, cap, m, n, V0, V1, D0, D1, P0, P1, hcs, _, hl, hm, hmm, hx, hi⟩
  · simp at hc
    exact ⟨none, 0, 0, [], hc, by unfold maxLen; omega, ⟨rfl, by simp, fun h => by omega⟩, Nat.le_refl _⟩
  · simp at hcs
    have hmc : m = cap := by rw [hmm]; rfl
    have each : ∀ i, i < len → ∃ q : C, V0 i = .int .i64 q.1 ∧ V1 i = .string q.2 ∧ q.2.size ≤ maxLen := by
      intro i hil
      obtain ⟨h0, h1, t0, t1⟩ := hi i (by omega)
      obtain ⟨z, e0, _, _⟩ := DataW.trod_int Try.underlying3 t0
      obtain ⟨s, e1, _, hs⟩ := DataW.trod_string Try.underlying9 t1
      exact ⟨(z, s), by simpa using e0, by simpa using e1, hs⟩
    obtain ⟨f, hf⟩ := choose_lt each
    refine ⟨some a, len, cap, (List.range len).map f, hcs, by omega, ⟨by simp, ?_, ?_⟩, by omega⟩
    · intro q hq
      obtain ⟨i, hir, rfl⟩ := List.mem_map.1 hq
      exact (hf i (by simpa using hir)).2.2
    · intro hp
      have h00 := (hi 0 (by omega)).1
      have hs : a.spot = none := by
        have h1 := World.cell?_spot h00
        unfold Addr.add at h1
        rw [if_pos (by omega)] at h1
        exact h1
      obtain ⟨b, off, spot⟩ := a
      simp only at hs
      subst hs
      have had : ∀ j, (⟨b, off, none⟩ : Addr).add j = ⟨b, off + j, none⟩ := fun j => by unfold Addr.add; split <;> simp_all
      refine ⟨b, off, rfl, ?_, fun i hil => ?_⟩
      · rw [had] at h00; exact block_lt_of_cell h00
      · have hil' : i < len := by simpa using hil
        obtain ⟨h0, h1, _, _⟩ := hi i (by omega)
        obtain ⟨e0, e1, _⟩ := hf i hil'
        rw [had] at h0 h1
        rw [← Nat.add_assoc] at h1
        simp only [List.getElem_map, List.getElem_range]
        rw [h0, h1, e0, e1]
        exact ⟨rfl, rfl⟩
theorem open_image_cells {fuel : Nat} {c0 c1 : Value} {x : DataW H × List MemPlace} (h : DataW.trod enc Try.prog W 0 (fun _ => true) true fuel 24 [c0, c1] = some x) :
    ∃ (clusters : Int) (A : Option Addr) (len cap : Nat) (cs : List C), c0 = .int .i64 clusters ∧ c1 = .slice A len cap ∧ (Lit.int .i64 clusters).wf = true ∧ len ≤ maxLen ∧ CRow W A len cs ∧ len ≤ cap := by
  obtain ⟨xs, n, _, hx, _, hlen, hg⟩ := DataW.trod_struct Try.underlying24 h
  have t0 : DataW.trod enc Try.prog W 0 (fun _ => true) true n 3 (([c0, c1].drop 0).take (Try.prog.cellsOf 3)) = xs[0]? := hg 0 _ rfl
  have t1 : DataW.trod enc Try.prog W 0 (fun _ => true) true n 22 (([c0, c1].drop 1).take (Try.prog.cellsOf 22)) = xs[1]? := hg 1 _ rfl
  have hlen' : xs.length = 2 := hlen
  rw [show xs[0]? = some (xs[0]'(by omega)) from List.getElem?_eq_getElem _] at t0
  rw [show xs[1]? = some (xs[1]'(by omega)) from List.getElem?_eq_getElem _] at t1
  rw [show Try.prog.cellsOf 3 = 1 by kernel_rfl] at t0
  rw [show Try.prog.cellsOf 22 = 1 by kernel_rfl] at t1
  obtain ⟨z, e0, _, hw⟩ := DataW.trod_int Try.underlying3 t0
  obtain ⟨A, len, cap, cs, e1, hl, hr⟩ := open_slice_cells (c := c1) t1
  exact ⟨z, A, len, cap, cs, by simpa using e0, e1, hw, hl, hr⟩
end
end Go.Proofs.Ytolpnbeepiblkaa
namespace Go.Proofs.Ytolpnbeepiblkaa
open Go.RowKit Go.Deep Go.ChangeShapes Go.WideShapes
theorem open_file {H : Type} {enc : TypeId × Value → H} {W : World} {r : Reach} {b0 : Nat} {v : Value} {d : DataW H} {p : List MemPlace} (hv : Value.okWide Try.prog W r b0 26 v) (h : DataW.Trod enc Try.prog W 0 (fun _ => true) true 26 v d p) :
    ∃ (id parent clusters : Int) (A : Option Addr) (len cap : Nat) (cs : List C), v = .agg #[.int .i64 id, .int .i64 parent, .int .i64 clusters, .slice A len cap] ∧ (Lit.int .i64 id).wf = true ∧ (Lit.int .i64 parent).wf = true ∧ (Lit.int .i64 clusters).wf = true ∧ len ≤ maxLen ∧ CRow W A len cs ∧ len ≤ cap := by
  obtain ⟨cs, rfl, hsz⟩ := okWide_struct Try.underlying26 hv
  obtain ⟨l⟩ := cs
  have h4 : l.length = 4 := hsz.trans (by kernel_rfl)
  match l, h4 with
  | [c0, c1, c2, c3], _ =>
    obtain ⟨fuel, hf⟩ := h
    obtain ⟨xs, n, _, hx, _, hlen, hg⟩ := DataW.trod_struct Try.underlying26 hf
    have t0 : DataW.trod enc Try.prog W 0 (fun _ => true) true n 3 (([c0, c1, c2, c3].drop 0).take (Try.prog.cellsOf 3)) = xs[0]? := hg 0 _ rfl
    have t1 : DataW.trod enc Try.prog W 0 (fun _ => true) true n 3 (([c0, c1, c2, c3].drop 1).take (Try.prog.cellsOf 3)) = xs[1]? := hg 1 _ rfl
    have t2 : DataW.trod enc Try.prog W 0 (fun _ => true) true n 24 (([c0, c1, c2, c3].drop 2).take (Try.prog.cellsOf 24)) = xs[2]? := hg 2 _ rfl
    have hlen' : xs.length = 3 := hlen
    rw [show xs[0]? = some (xs[0]'(by omega)) from List.getElem?_eq_getElem _] at t0
    rw [show xs[1]? = some (xs[1]'(by omega)) from List.getElem?_eq_getElem _] at t1
    rw [show xs[2]? = some (xs[2]'(by omega)) from List.getElem?_eq_getElem _] at t2
    rw [show Try.prog.cellsOf 3 = 1 by kernel_rfl] at t0 t1
    rw [show Try.prog.cellsOf 24 = 2 by kernel_rfl] at t2
    obtain ⟨z0, e0, _, hw0⟩ := DataW.trod_int Try.underlying3 t0
    obtain ⟨z1, e1, _, hw1⟩ := DataW.trod_int Try.underlying3 t1
    obtain ⟨z2, A, len, cap, cs, e2, e3, hw2, hl, hr⟩ := open_image_cells (c0 := c2) (c1 := c3) t2
    have e0' : c0 = .int .i64 z0 := by simpa using e0
    have e1' : c1 = .int .i64 z1 := by simpa using e1
    subst e0' e1' e2 e3
    exact ⟨z0, z1, z2, A, len, cap, cs, rfl, hw0, hw1, hw2, hl, hr⟩
end Go.Proofs.Ytolpnbeepiblkaa
namespace Go.Proofs.Ytolpnbeepiblkaa.Pr
open Go.RowKit Go.Deep Go.ChangeShapes Go.WideShapes Go.Proofs.Ytolpnbeepiblkaa Go.Proofs.YtolpnbeepiblkaaW.PrintWords Go.Proofs.YtolpnbeepiblkaaW.PrintLast
def ofC (cs : List C) : List SC := cs.map fun c => ⟨c.1, c.2⟩
theorem ofC_length (cs : List C) : (ofC cs).length = cs.length := List.length_map _
theorem C_of_crow {w : World} {A : Option Addr} {len : Nat} {cs : List C} (h : CRow w A len cs) (hl : len ≤ maxLen) : Kd.C kC w A (ofC cs).length (ofC cs) := by
  have h0 := h.1
  have hlen := ofC_length cs
  refine ⟨rfl, by unfold maxLen at hl; omega, fun hp => ?_⟩
  obtain ⟨b, off, ha, _, hc⟩ := h.2.2 (by omega)
  refine ⟨⟨b, off, none⟩, ha, fun j p hj => ?_⟩
  obtain ⟨hj', rfl⟩ := List.getElem?_eq_some_iff.1 hj
  have hj2 : j < cs.length := by omega
  obtain ⟨c0, c1⟩ := hc j hj2
  have had : ∀ j, (⟨b, off, none⟩ : Addr).add j = ⟨b, off + j, none⟩ := fun j => by unfold Addr.add; split <;> simp_all
  refine ⟨_, rfl, k33_mk w _, fun i u hu => ?_⟩
  have he : (ofC cs)[j] = ⟨cs[j].1, cs[j].2⟩ := List.getElem_map (fun c : C => (⟨c.1, c.2⟩ : SC))
  rw [he] at hu
  rw [had]
  match i, hu with
  | 0, hu => exact (Option.some.inj hu) ▸ c0
  | 1, hu => exact (Option.some.inj hu) ▸ c1
theorem sized_ofC {w : World} {A : Option Addr} {len : Nat} {cs : List C} (h : CRow w A len cs) : sizedC (ofC cs) = true := by
  unfold sizedC ofC
  rw [List.all_eq_true]
  intro x hx
  obtain ⟨c, hc, rfl⟩ := List.mem_map.1 hx
  exact decide_eq_true (h.2.1 c hc)
theorem open_image {H : Type} {enc : TypeId × Value → H} {W : World} {r : Reach} {b0 : Nat} {v : Value} {d : DataW H} {p : List MemPlace} (hv : Value.okWide Try.prog W r b0 24 v) (h : DataW.Trod enc Try.prog W 0 (fun _ => true) true 24 v d p) :
    ∃ (clusters : Int) (A : Option Addr) (cap : Nat) (l : List SC), v = .agg #[.int .i64 clusters, .slice A l.length cap] ∧ l.length ≤ cap ∧ Kd.C kC W A l.length l ∧ sizedC l = true := by
  obtain ⟨cs, rfl, hsz⟩ := okWide_struct Try.underlying24 hv
  obtain ⟨l⟩ := cs
  have h2 : l.length = 2 := hsz.trans (by kernel_rfl)
  match l, h2 with
  | [c0, c1], _ =>
    obtain ⟨fuel, hf⟩ := h
    obtain ⟨z, A, len, cap, cs, rfl, rfl, _, hl, hr, hcap⟩ := open_image_cells hf
    have e : (ofC cs).length = len := (ofC_length cs).trans hr.1
    exact ⟨z, A, cap, ofC cs, by rw [e], by omega, C_of_crow hr hl, sized_ofC hr⟩
end Go.Proofs.Ytolpnbeepiblkaa.Pr
namespace Go.Proofs.Ytolpnbeepiblkaa.Pr
open Go.RowKit Go.Deep Go.ChangeShapes Go.WideShapes Go.Proofs.Ytolpnbeepiblkaa Go.Proofs.YtolpnbeepiblkaaW.PrintWords Go.Proofs.YtolpnbeepiblkaaW.PrintLast
theorem open_fileC {H : Type} {enc : TypeId × Value → H} {W : World} {r : Reach} {b0 : Nat} {v : Value} {d : DataW H} {p : List MemPlace} (hv : Value.okWide Try.prog W r b0 26 v) (h : DataW.Trod enc Try.prog W 0 (fun _ => true) true 26 v d p) :
    ∃ (id parent clusters : Int) (A : Option Addr) (cap : Nat) (l : List SC), v = .agg #[.int .i64 id, .int .i64 parent, .int .i64 clusters, .slice A l.length cap] ∧ l.length ≤ cap ∧ Kd.C kC W A l.length l ∧ sizedC l = true := by
  obtain ⟨i, q, z, A, len, cap, cs, e, _, _, _, hl, hr, hcap⟩ := open_file hv h
  have e2 : (ofC cs).length = len := (ofC_length cs).trans hr.1
  exact ⟨i, q, z, A, cap, ofC cs, by rw [e2]; exact e, by omega, C_of_crow hr hl, sized_ofC hr⟩
end Go.Proofs.Ytolpnbeepiblkaa.Pr
