/- An argument that is a slice of acts, as the walks want it. Conditions: none but that it is an argument. -/
import Derived.Test.YtfdhehjfbcddgaaDoorTLaw0
import Derived.Deep.Slices
import Derived.ChangeArms
import Derived.ChangeSame
import Derived.OpenShut
namespace Go.Proofs.YtfdhehjfbcddgaaDoor.Pr
open Go.RowKit Go.Deep Go.ChangeShapes Go.WideShapes Go.Proofs.YtfdhehjfbcddgaaDoor Go.Proofs.YtfdhehjfbcddgaaDoorW.PrintWords Go.Proofs.YtfdhehjfbcddgaaDoorW.PrintLast
theorem wf_i64 {x : Int} (h : (Lit.int .i64 x).wf = true) : I64 x := by
  have h' : IntKind.i64.min ≤ x ∧ x ≤ 9223372036854775807 := by simpa [Lit.wf] using h
  exact ⟨h'.1, h'.2⟩
theorem ac_pick {l : Nat} {P : Nat → Ac → Prop} (h : ∀ i, i < l → ∃ q, P i q) : ∃ f : Nat → Ac, ∀ i, i < l → P i (f i) := by
  refine ⟨fun i => if hi : i < l then (h i hi).choose else zA, fun i hi => ?_⟩
  simp only [dif_pos hi]
  exact (h i hi).choose_spec
set_option maxRecDepth 100000 in
theorem act_cells {H : Type} {enc : TypeId × Value → H} {W : World} {n : Nat} {c0 c1 c2 c3 : Value} {x : DataW H × List MemPlace} (h2 : DataW.trod enc Tryd.prog W 0 (fun _ => true) true n 38 [c0, c1, c2, c3] = some x) :
    ∃ (z0 z1 z2 : Int) (s3 : ByteArray), c0 = .int .i64 z0 ∧ c1 = .int .i64 z1 ∧ c2 = .int .i64 z2 ∧ c3 = .string s3 ∧ AcOk ⟨z0, z1, z2, s3⟩ ∧ s3.size ≤ maxLen := by
  obtain ⟨xs, k, _, _, _, hxl, hg⟩ := DataW.trod_struct Tryd.underlying38 h2
  have t0 : DataW.trod enc Tryd.prog W 0 (fun _ => true) true k 3 (([c0, c1, c2, c3].drop 0).take (Tryd.prog.cellsOf 3)) = xs[0]? := hg 0 _ rfl
  have t1 : DataW.trod enc Tryd.prog W 0 (fun _ => true) true k 3 (([c0, c1, c2, c3].drop 1).take (Tryd.prog.cellsOf 3)) = xs[1]? := hg 1 _ rfl
  have t2 : DataW.trod enc Tryd.prog W 0 (fun _ => true) true k 3 (([c0, c1, c2, c3].drop 2).take (Tryd.prog.cellsOf 3)) = xs[2]? := hg 2 _ rfl
  have t3 : DataW.trod enc Tryd.prog W 0 (fun _ => true) true k 9 (([c0, c1, c2, c3].drop 3).take (Tryd.prog.cellsOf 9)) = xs[3]? := hg 3 _ rfl
  have hxl' : xs.length = 4 := hxl
  rw [show xs[0]? = some (xs[0]'(by omega)) from List.getElem?_eq_getElem _, show Tryd.prog.cellsOf 3 = 1 by kernel_rfl] at t0
  rw [show xs[1]? = some (xs[1]'(by omega)) from List.getElem?_eq_getElem _, show Tryd.prog.cellsOf 3 = 1 by kernel_rfl] at t1
  rw [show xs[2]? = some (xs[2]'(by omega)) from List.getElem?_eq_getElem _, show Tryd.prog.cellsOf 3 = 1 by kernel_rfl] at t2
  rw [show xs[3]? = some (xs[3]'(by omega)) from List.getElem?_eq_getElem _, show Tryd.prog.cellsOf 9 = 1 by kernel_rfl] at t3
  obtain ⟨z0, e0, _, w0⟩ := DataW.trod_int Tryd.underlying3 t0
  obtain ⟨z1, e1, _, w1⟩ := DataW.trod_int Tryd.underlying3 t1
  obtain ⟨z2, e2, _, w2⟩ := DataW.trod_int Tryd.underlying3 t2
  obtain ⟨s3, e3, _, hs⟩ := DataW.trod_string Tryd.underlying9 t3
  simp at e0 e1 e2 e3
  exact ⟨z0, z1, z2, s3, e0, e1, e2, e3, ⟨wf_i64 w0, wf_i64 w1, wf_i64 w2⟩, hs⟩
set_option maxRecDepth 100000 in
theorem open_acts {H : Type} {enc : TypeId × Value → H} {W : World} {r : Reach} {b0 : Nat} {v : Value} {d : DataW H} {p : List MemPlace} (hv : Value.okWide Tryd.prog W r b0 22 v) (h : DataW.Trod enc Tryd.prog W 0 (fun _ => true) true 22 v d p) :
    ∃ (A : Option Addr) (cap : Nat) (l : List Ac), v = .slice A l.length cap ∧ l.length ≤ maxLen ∧ ActsAt W A l ∧ (∀ a ∈ l, AcOk a) ∧ ∀ a ∈ l, a.name.size ≤ maxLen := by
  obtain ⟨a0, len0, cap0, rfl⟩ := okWide_slice Tryd.underlying22 hv
  obtain ⟨fuel, hf⟩ := h
  rcases open_slice Tryd.underlying22 hf with ⟨hcs, _⟩ | ⟨a, len, cap, m, n, D, Pl, hcs, _, hl, hm, hmm, _, hx⟩
  · simp [Value.cells] at hcs
    obtain ⟨rfl, rfl, rfl⟩ := hcs
    exact ⟨none, 0, [], rfl, Nat.zero_le _, fun hp => absurd hp (Nat.lt_irrefl 0), fun q hq => by simp at hq, fun q hq => by simp at hq⟩
  · simp [Value.cells] at hcs
    obtain ⟨rfl, rfl, rfl⟩ := hcs
    have hmc : m = cap0 := by rw [hmm]; rfl
    have hce : Tryd.prog.cellsOf 38 = 4 := by kernel_rfl
    rw [hce] at hx
    have each : ∀ i, i < len0 → ∃ q : Ac, W.cell? (a.add (i * 4)) = some (.int .i64 q.op) ∧ W.cell? ((a.add (i * 4)).add 1) = some (.int .i64 q.id) ∧ W.cell? ((a.add (i * 4)).add 2) = some (.int .i64 q.n) ∧ W.cell? ((a.add (i * 4)).add 3) = some (.string q.name) ∧ AcOk q ∧ q.name.size ≤ maxLen := by
      intro i hi
      obtain ⟨cs', h1, h2⟩ := hx i (by omega)
      obtain ⟨_, hlen, hcell⟩ := World.cells?_some h1
      match cs', hlen with
      | [c0, c1, c2, c3], _ =>
      obtain ⟨z0, z1, z2, s3, rfl, rfl, rfl, rfl, hak, hs⟩ := act_cells h2
      refine ⟨⟨z0, z1, z2, s3⟩, ?_, (hcell 1 (by decide)).trans rfl, (hcell 2 (by decide)).trans rfl, (hcell 3 (by decide)).trans rfl, hak, hs⟩
      have := (hcell 0 (by decide)).trans rfl
      rwa [show (a.add (i * 4)).add 0 = a.add (i * 4) by unfold Addr.add; simp] at this
    obtain ⟨f, hf'⟩ := ac_pick each
    have hlen : ((List.range len0).map f).length = len0 := by simp
    refine ⟨some a, cap0, (List.range len0).map f, by rw [hlen], by rw [hlen]; omega, ?_, ?_, ?_⟩
    · intro hp
      rw [hlen] at hp
      have h00 := (hf' 0 hp).1
      have hs : a.spot = none := by
        have h1 := World.cell?_spot h00
        unfold Addr.add at h1
        rw [if_pos (by omega)] at h1
        exact h1
      obtain ⟨b, off, spot⟩ := a
      simp only at hs
      subst hs
      have had : ∀ (o j : Nat), (⟨b, o, none⟩ : Addr).add j = ⟨b, o + j, none⟩ := fun o j => by unfold Addr.add; split <;> simp_all
      refine ⟨b, off, rfl, ?_, fun j u hu => ?_⟩
      · rw [had] at h00; exact block_lt_of_cell h00
      · have hj := (List.getElem?_eq_some_iff.1 hu).1
        rw [flatE_length encA_len, hlen] at hj
        obtain ⟨i, k, hi, hk, rfl⟩ : ∃ i k, i < len0 ∧ k < 4 ∧ j = i * 4 + k := ⟨j / 4, j % 4, by omega, by omega, by omega⟩
        obtain ⟨g0, g1, g2, g3, _⟩ := hf' i hi
        rw [had] at g0
        rw [had, had] at g1 g2 g3
        rw [flatE_get encA_len _ i (by rw [hlen]; exact hi) k hk] at hu
        rw [show ((List.range len0).map f)[i]'(by rw [hlen]; exact hi) = f i by simp] at hu
        rw [← Nat.add_assoc]
        match k, hk, hu with
        | 0, _, hu => obtain rfl := Option.some.inj hu; exact g0
        | 1, _, hu => obtain rfl := Option.some.inj hu; exact g1
        | 2, _, hu => obtain rfl := Option.some.inj hu; exact g2
        | 3, _, hu => obtain rfl := Option.some.inj hu; exact g3
    · intro q hq
      obtain ⟨i, hi, rfl⟩ := List.mem_map.1 hq
      exact (hf' i (List.mem_range.1 hi)).2.2.2.2.1
    · intro q hq
      obtain ⟨i, hi, rfl⟩ := List.mem_map.1 hq
      exact (hf' i (List.mem_range.1 hi)).2.2.2.2.2
set_option maxRecDepth 100000 in
theorem open_act {H : Type} {enc : TypeId × Value → H} {W : World} {r : Reach} {b0 : Nat} {v : Value} {d : DataW H} {p : List MemPlace} (hv : Value.okWide Tryd.prog W r b0 38 v) (h : DataW.Trod enc Tryd.prog W 0 (fun _ => true) true 38 v d p) :
    ∃ (z0 z1 z2 : Int) (s3 : ByteArray), v = .agg #[.int .i64 z0, .int .i64 z1, .int .i64 z2, .string s3] ∧ AcOk ⟨z0, z1, z2, s3⟩ ∧ s3.size ≤ maxLen := by
  obtain ⟨cs, rfl, hsz⟩ := okWide_struct Tryd.underlying38 hv
  obtain ⟨l⟩ := cs
  have h2 : l.length = 4 := hsz.trans (by kernel_rfl)
  match l, h2 with
  | [c0, c1, c2, c3], _ =>
    obtain ⟨fuel, hf⟩ := h
    obtain ⟨z0, z1, z2, s3, rfl, rfl, rfl, rfl, h1, h2⟩ := act_cells hf
    exact ⟨z0, z1, z2, s3, rfl, h1, h2⟩
end Go.Proofs.YtfdhehjfbcddgaaDoor.Pr
