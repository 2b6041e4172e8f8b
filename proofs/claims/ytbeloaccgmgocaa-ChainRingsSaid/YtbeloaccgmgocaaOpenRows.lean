/- An argument that is a slice of slices of ints, as the printed contracts want it. Conditions: none but that it is an argument. -/
import Derived.Test.YtbeloaccgmgocaaHBase
import Derived.Deep.Matrix
import Derived.ChangeArms
import Derived.ChangeSame
import Derived.OpenShut
namespace Go.Proofs.Ytbeloaccgmgocaa.Pr
open Go.RowKit Go.Deep Go.ChangeShapes Go.WideShapes Go.Proofs.Ytbeloaccgmgocaa Go.Proofs.YtbeloaccgmgocaaW.PrintWords Go.Proofs.YtbeloaccgmgocaaW.PrintLast
theorem C_ints {w : World} {A : Option Addr} {C L : Nat} {Z : List Int} (hL : L ≤ C) (hC : C ≤ maxLen) (hZ : Z.length = C) (h0 : A = none → C = 0) (h : ∀ a', A = some a' → ∀ c, c < C → w.cell? (a'.add c) = some (.int .i64 (Z.getD c 0))) : Kd.C (Kd.int .i64) w A (Z.take L).length (Z.take L) := by
  have hlen : (Z.take L).length = L := by rw [List.length_take]; omega
  refine ⟨rfl, by unfold maxLen at hC; omega, fun hp => ?_⟩
  cases A with
  | none => have := h0 rfl; omega
  | some a' =>
    refine ⟨a', rfl, fun j p hj => ?_⟩
    obtain ⟨hj', rfl⟩ := List.getElem?_eq_some_iff.1 hj
    have hc := h a' rfl j (by omega)
    refine ⟨[.int .i64 (Z.take L)[j]], rfl, rfl, fun i u hu => ?_⟩
    match i, hu with
    | 0, hu =>
      obtain rfl := Option.some.inj hu
      rw [show j * (Kd.int .i64).sz + 0 = j from Nat.mul_one j, hc, List.getElem_take, List.getD_eq_getElem?_getD, List.getElem?_eq_getElem (by omega)]
      rfl
set_option maxRecDepth 100000 in
theorem open_rows {H : Type} {enc : TypeId × Value → H} {W : World} {r : Reach} {b0 : Nat} {v : Value} {d : DataW H} {p : List MemPlace} (hv : Value.okWide Try.prog W r b0 41 v) (h : DataW.Trod enc Try.prog W 0 (fun _ => true) true 41 v d p) :
    ∃ (A : Option Addr) (cap : Nat) (l : List (List Int)), v = .slice A l.length cap ∧ l.length ≤ cap ∧ l.length ≤ maxLen ∧ Kd.C (Kd.slice 3 (Kd.int .i64)) W A l.length l ∧ ∀ q ∈ l, ∀ x ∈ q, (Lit.int .i64 x).wf = true := by
  obtain ⟨a0, len0, cap0, rfl⟩ := okWide_slice Try.underlying41 hv
  obtain ⟨fuel, hf⟩ := h
  rcases open_int_rows Try.underlying41 Try.underlying33 Try.underlying3 (by kernel_rfl) (by kernel_rfl) hf with ⟨hcs, _⟩ | ⟨a, len, cap, A, L, C, Z, hcs, _, hl, hm, _, hr⟩
  · simp [Value.cells] at hcs
    obtain ⟨rfl, rfl, rfl⟩ := hcs
    exact ⟨none, 0, [], rfl, Nat.le_refl _, Nat.zero_le _, ⟨rfl, by simp, fun hp => by simp at hp⟩, fun q hq => by simp at hq⟩
  · simp [Value.cells] at hcs
    obtain ⟨rfl, rfl, rfl⟩ := hcs
    have hlen : ((List.range len0).map fun r => (Z r).take (L r)).length = len0 := by simp
    refine ⟨some a, cap0, (List.range len0).map fun r => (Z r).take (L r), by rw [hlen], by rw [hlen]; exact hl, by rw [hlen]; omega, ⟨rfl, by rw [hlen]; unfold maxLen at hm; omega, fun _ => ⟨a, rfl, fun j q hj => ?_⟩⟩, ?_⟩
    · obtain ⟨hj', rfl⟩ := List.getElem?_eq_some_iff.1 hj
      rw [hlen] at hj'
      obtain ⟨hc, r1, r2, r3, _, r5, r6⟩ := hr j (by omega)
      have e : ((List.range len0).map fun r => (Z r).take (L r))[j] = (Z j).take (L j) := by simp
      have el : ((Z j).take (L j)).length = L j := by rw [List.length_take]; omega
      rw [e]
      refine ⟨[.slice (A j) ((Z j).take (L j)).length (C j)], rfl, ⟨A j, C j, rfl, by omega, C_ints r1 r2 r3 r5 (fun a' ha => (r6 a' ha).2)⟩, fun i u hu => ?_⟩
      match i, hu with
      | 0, hu =>
        obtain rfl := Option.some.inj hu
        rw [show j * (Kd.slice 3 (Kd.int .i64)).sz + 0 = j from Nat.mul_one j, hc, el]
    · intro q hq x hx
      obtain ⟨i, hi, rfl⟩ := List.mem_map.1 hq
      rw [List.mem_range] at hi
      exact (hr i (by omega)).2.2.2.2.1 x (List.mem_of_mem_take hx)
end Go.Proofs.Ytbeloaccgmgocaa.Pr
