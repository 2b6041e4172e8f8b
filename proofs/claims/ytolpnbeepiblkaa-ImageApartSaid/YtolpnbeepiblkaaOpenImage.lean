/- An argument that is a cell.Image, as the printed contracts want it. Conditions: none but that it is an argument. -/
import Derived.Test.YtolpnbeepiblkaaOpenCells
import Derived.Test.YtolpnbeepiblkaaHRight
namespace Go.Proofs.Ytolpnbeepiblkaa.Pr
open Go.RowKit Go.Deep Go.ChangeShapes Go.WideShapes Go.Proofs.Ytolpnbeepiblkaa Go.Proofs.YtolpnbeepiblkaaW.PrintWords Go.Proofs.YtolpnbeepiblkaaW.PrintLast
def ofC (cs : List C) : List SC := cs.map fun c => ⟨c.1, c.2⟩
theorem ofC_length (cs : List C) : (ofC cs).length = cs.length := List.length_map _
theorem C_of_crow {w : World} {A : Option Addr} {len : Nat} {cs : List C} (h : CRow w A len cs) (hl : len ≤ maxLen) : Kd.C kC w A (ofC cs).length (ofC cs) := by
  have h0 := h.1
  have hlen := ofC_length cs
  refine ⟨rfl, by unfold maxLen at hl; omega, fun hp => ?_⟩
  obtain ⟨b, off, ha, _, hc⟩ := h.2.2 (by omega)
  refine ⟨⟨b, off, none⟩, ha, fun j p hj => ?_⟩
  obtain ⟨hj', rfl⟩ := List.getElem?_eq_some_iff.1 hj
  have hj2 : j < cs.length := by omega
  obtain ⟨c0, c1⟩ := hc j hj2
  have had : ∀ j, (⟨b, off, none⟩ : Addr).add j = ⟨b, off + j, none⟩ := fun j => by unfold Addr.add; split <;> simp_all
  refine ⟨_, rfl, k33_mk w _, fun i u hu => ?_⟩
  have he : (ofC cs)[j] = ⟨cs[j].1, cs[j].2⟩ := List.getElem_map (fun c : C => (⟨c.1, c.2⟩ : SC))
  rw [he] at hu
  rw [had]
  match i, hu with
  | 0, hu => exact (Option.some.inj hu) ▸ c0
  | 1, hu => exact (Option.some.inj hu) ▸ c1
theorem sized_ofC {w : World} {A : Option Addr} {len : Nat} {cs : List C} (h : CRow w A len cs) : sizedC (ofC cs) = true := by
  unfold sizedC ofC
  rw [List.all_eq_true]
  intro x hx
  obtain ⟨c, hc, rfl⟩ := List.mem_map.1 hx
  exact decide_eq_true (h.2.1 c hc)
theorem open_image {H : Type} {enc : TypeId × Value → H} {W : World} {r : Reach} {b0 : Nat} {v : Value} {d : DataW H} {p : List MemPlace} (hv : Value.okWide Try.prog W r b0 24 v) (h : DataW.Trod enc Try.prog W 0 (fun _ => true) true 24 v d p) :
    ∃ (clusters : Int) (A : Option Addr) (cap : Nat) (l : List SC), v = .agg #[.int .i64 clusters, .slice A l.length cap] ∧ l.length ≤ cap ∧ Kd.C kC W A l.length l ∧ sizedC l = true := by
  obtain ⟨cs, rfl, hsz⟩ := okWide_struct Try.underlying24 hv
  obtain ⟨l⟩ := cs
  have h2 : l.length = 2 := hsz.trans (by kernel_rfl)
  match l, h2 with
  | [c0, c1], _ =>
    obtain ⟨fuel, hf⟩ := h
    obtain ⟨z, A, len, cap, cs, rfl, rfl, _, hl, hr, hcap⟩ := open_image_cells hf
    have e : (ofC cs).length = len := (ofC_length cs).trans hr.1
    exact ⟨z, A, cap, ofC cs, by rw [e], by omega, C_of_crow hr hl, sized_ofC hr⟩
end Go.Proofs.Ytolpnbeepiblkaa.Pr
