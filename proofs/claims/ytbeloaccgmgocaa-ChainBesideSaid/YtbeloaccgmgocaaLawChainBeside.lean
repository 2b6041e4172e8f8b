/- The statement ChainBeside holds for every argument. No conditions. -/
import Derived.Test.YtbeloaccgmgocaaHBase
import Derived.Deep.Matrix
import Derived.ChangeArms
import Derived.ChangeSame
import Derived.OpenShut
import Derived.Test.YtbeloaccgmgocaaRows
import Derived.Test.YtbeloaccgmgocaaChainBeside
import Derived.ProofKit
import Derived.ChangeOld
import Derived.Below
section
namespace Go.Proofs.Ytbeloaccgmgocaa.Pr
open Go.RowKit Go.Deep Go.ChangeShapes Go.WideShapes Go.Proofs.Ytbeloaccgmgocaa Go.Proofs.YtbeloaccgmgocaaW.PrintWords Go.Proofs.YtbeloaccgmgocaaW.PrintLast
theorem C_ints {w : World} {A : Option Addr} {C L : Nat} {Z : List Int} (hL : L ≤ C) (hC : C ≤ maxLen) (hZ : Z.length = C) (h0 : A = none → C = 0) (h : ∀ a', A = some a' → ∀ c, c < C → w.cell? (a'.add c) = some (.int .i64 (Z.getD c 0))) : Kd.C (Kd.int .i64) w A (Z.take L).length (Z.take L) := by
  have hlen : (Z.take L).length = L := by rw [List.length_take]; omega
  refine ⟨rfl, by unfold maxLen at hC; omega, fun hp => ?_⟩
  cases A with
  | none => have := h0 rfl; omega
  | some a' =>
    refine ⟨a', rfl, fun j p hj => ?_⟩
    obtain ⟨hj', rfl⟩ := List.getElem?_eq_some_iff.1 hj
    have hc := h a' rfl j (by omega)
    refine ⟨[.int .i64 (Z.take L)[j]], rfl, rfl, fun i u hu => ?_⟩
    match i, hu with
    | 0, hu =>
      obtain rfl := Option.some.inj hu
      rw [show j * (Kd.int .i64).sz + 0 = j from Nat.mul_one j, hc, List.getElem_take, List.getD_eq_getElem?_getD, List.getElem?_eq_getElem (by omega)]
      rfl
set_option maxRecDepth 100000 in
theorem open_rows {H : Type} {enc : TypeId × Value → H} {W : World} {r : Reach} {b0 : Nat} {v : Value} {d : DataW H} {p : List MemPlace} (hv : Value.okWide Try.prog W r b0 41 v) (h : DataW.Trod enc Try.prog W 0 (fun _ => true) true 41 v d p) :
    ∃ (A : Option Addr) (cap : Nat) (l : List (List Int)), v = .slice A l.length cap ∧ l.length ≤ cap ∧ l.length ≤ maxLen ∧ Kd.C (Kd.slice 3 (Kd.int .i64)) W A l.length l ∧ ∀ q ∈ l, ∀ x ∈ q, (Lit.int .i64 x).wf = true := by
  obtain ⟨a0, len0, cap0, rfl⟩ := okWide_slice Try.underlying41 hv
  obtain ⟨fuel, hf⟩ := h
  rcases open_int_rows Try.underlying41 Try.underlying33 Try.underlying3 (by kernel_rfl) (by kernel_rfl) hf with ⟨hcs, _⟩ | ⟨a, len, cap, A, L, C, Z, hcs, _, hl, hm, _, hr⟩
  · simp [Value.cells] at hcs
    obtain ⟨rfl, rfl, rfl⟩ := hcs
    exact ⟨none, 0, [], rfl, Nat.le_refl _, Nat.zero_le _, ⟨rfl, by simp, fun hp => by simp at hp⟩, fun q hq => by simp at hq⟩
  · simp [Value.cells] at hcs
    obtain ⟨rfl, rfl, rfl⟩ := hcs
    have hlen : ((List.range len0).map fun r => (Z r).take (L r)).length = len0 := by simp
    refine ⟨some a, cap0, (List.range len0).map fun r => (Z r).take (L r), by rw [hlen], by rw [hlen]; exact hl, by rw [hlen]; omega, ⟨rfl, by rw [hlen]; unfold maxLen at hm; omega, fun _ => ⟨a, rfl, fun j q hj => ?_⟩⟩, ?_⟩
    · obtain ⟨hj', rfl⟩ := List.getElem?_eq_some_iff.1 hj
      rw [hlen] at hj'
      obtain ⟨hc, r1, r2, r3, _, r5, r6⟩ := hr j (by omega)
      have e : ((List.range len0).map fun r => (Z r).take (L r))[j] = (Z j).take (L j) := by simp
      have el : ((Z j).take (L j)).length = L j := by rw [List.length_take]; omega
      rw [e]
      refine ⟨[.slice (A j) ((Z j).take (L j)).length (C j)], rfl, ⟨A j, C j, rfl, by omega, C_ints r1 r2 r3 r5 (fun a' ha => (r6 a' ha).2)⟩, fun i u hu => ?_⟩
      match i, hu with
      | 0, hu =>
        obtain rfl := Option.some.inj hu
        rw [show j * (Kd.slice 3 (Kd.int .i64)).sz + 0 = j from Nat.mul_one j, hc, el]
    · intro q hq x hx
      obtain ⟨i, hi, rfl⟩ := List.mem_map.1 hq
      rw [List.mem_range] at hi
      exact (hr i (by omega)).2.2.2.2.1 x (List.mem_of_mem_take hx)
set_option maxRecDepth 100000 in
theorem open_intl {H : Type} {enc : TypeId × Value → H} {W : World} {r : Reach} {b0 : Nat} {v : Value} {d : DataW H} {p : List MemPlace} (hv : Value.okWide Try.prog W r b0 33 v) (h : DataW.Trod enc Try.prog W 0 (fun _ => true) true 33 v d p) :
    ∃ (A : Option Addr) (cap : Nat) (l : List Int), v = .slice A l.length cap ∧ l.length ≤ cap ∧ l.length ≤ maxLen ∧ Kd.C (Kd.int .i64) W A l.length l ∧ ∀ x ∈ l, (Lit.int .i64 x).wf = true := by
  obtain ⟨a0, len0, cap0, rfl⟩ := okWide_slice Try.underlying33 hv
  obtain ⟨fuel, hf⟩ := h
  rcases open_ints Try.underlying33 Try.underlying3 (by kernel_rfl) hf with ⟨hcs, _⟩ | ⟨a, len, cap, zs, hcs, _, hl, hm, hz, _, hcell, hw⟩
  · simp [Value.cells] at hcs
    obtain ⟨rfl, rfl, rfl⟩ := hcs
    exact ⟨none, 0, [], rfl, Nat.le_refl _, Nat.zero_le _, Kd.C_nil _ _, fun q hq => by simp at hq⟩
  · simp [Value.cells] at hcs
    obtain ⟨rfl, rfl, rfl⟩ := hcs
    rw [if_pos rfl] at hz
    have hlen : (zs.take len0).length = len0 := by rw [List.length_take]; omega
    refine ⟨some a, cap0, zs.take len0, by rw [hlen], by rw [hlen]; exact hl, by rw [hlen]; omega, ?_, fun x hx => hw x (List.mem_of_mem_take hx)⟩
    exact C_ints hl hm hz (fun e => by cases e) (fun a' ha c hc => by injection ha with ha; subst ha; exact hcell c (by omega))
end Go.Proofs.Ytbeloaccgmgocaa.Pr
end
section
namespace Go.Proofs.Ytbeloaccgmgocaa.chainBeside
open Go.ChangeShapes Go.WideShapes Go.ChangeAt Go.RowKit Go.Proofs.Ytbeloaccgmgocaa.Pr
set_option linter.unusedVariables false
theorem own : ownKnob Try.prog.godebug = none := by kernel_rfl
theorem laidOut : laidOutB Try.prog = true := by kernel_rfl
set_option maxRecDepth 100000 in
theorem lifted (os : Os) (started : os.Started) (H : Type) (enc : TypeId × Value → H) :
    ReturnsInHanded {} Try.checked os 4 .any (Rows.chainBesideSpec.pre6 enc Try.prog Try.f4 Rows.chainBesideRow.domain false) (Rows.chainBesideSpec.post enc Try.prog Try.f4 false true false false) := by
  refine returnsInHanded_of_change (C := Try.checked) own started (by kernel_rfl) Try.func4
    (ChangeSpec.witness6 (enc := enc) (C := Try.checked) false ⟨#[], #[.int .i64 0, .slice none 0 0, .slice none 0 0, .slice none 0 0], []⟩ 8 (by kernel_rfl) (by kernel_rfl) (by kernel_rfl) (by kernel_rfl)) ?_
  intro W base args ds gs before hval0 hW hcnd _
  have hval : ∀ (j : Nat) t v, Try.f4.params[j]? = some t → args[j]? = some v → Value.okWide Try.prog W .any base t v := hval0
  have hW' := hW
  obtain ⟨p, q, hA0, hV, rfl, hfz, hnd⟩ := hW
  have hA : DataW.TrodAll enc Try.prog W 0 (fun _ => true) true Try.f4.params.toList args.toList ds p := hA0
  rw [Try.params4] at hA hval
  obtain ⟨v0, vs0, d0, ds0, p0, q0, hargs, rfl, rfl, h0, r0⟩ := trodAll_cons hA
  obtain ⟨v1, vs1, d1, ds1, p1, q1, rfl, rfl, rfl, h1, r1⟩ := trodAll_cons r0
  obtain ⟨v2, vs2, d2, ds2, p2, q2, rfl, rfl, rfl, h2, r2⟩ := trodAll_cons r1
  obtain ⟨v3, vs3, d3, ds3, p3, q3, rfl, rfl, rfl, h3, r3⟩ := trodAll_cons r2
  obtain ⟨rfl, rfl, rfl⟩ := trodAll_nil r3
  obtain rfl : args = #[v0, v1, v2, v3] := by cases args; simp_all
  obtain ⟨rfl, rfl⟩ := trodVars_none hV
  have k1 := h1
  have lt1 : ∀ x ∈ p1, x.block < W.heap.size := by obtain ⟨m, hm⟩ := k1; exact DataW.trod_lt m _ _ _ hm
  have k2 := h2
  have lt2 : ∀ x ∈ p2, x.block < W.heap.size := by obtain ⟨m, hm⟩ := k2; exact DataW.trod_lt m _ _ _ hm
  have k3 := h3
  have lt3 : ∀ x ∈ p3, x.block < W.heap.size := by obtain ⟨m, hm⟩ := k3; exact DataW.trod_lt m _ _ _ hm
  obtain ⟨a0, rfl, rfl, rfl, w0⟩ := open_int Try.underlying3 (hval 0 3 v0 rfl rfl) h0
  obtain ⟨A1, cap1, l1, rfl, c1, m1, e1, w1⟩ := open_rows (hval 1 41 v1 rfl rfl) h1
  obtain ⟨A2, cap2, l2, rfl, c2, m2, e2, w2⟩ := open_intl (hval 2 33 v2 rfl rfl) h2
  obtain ⟨A3, cap3, l3, rfl, c3, m3, e3, w3⟩ := open_intl (hval 3 33 v3 rfl rfl) h3
  clear hA0 hval0
  refine (beside_any a0 A1 cap1 l1 A2 cap2 l2 A3 cap3 l3 W e1 c1 e2 c2 e3 c3 w0 w1 w2 w3).mono fun e W' ⟨he, bel⟩ => ?_
  subst he
  exact ⟨_, rfl, _, _, _, [], _, [], hW', trodAll_mk1 (shut_bool Try.underlying4 _), (trodAll_cons_mk (shut_int Try.underlying3 w0) (trodAll_cons_mk (Below.trod laidOut (by kernel_rfl) (of_decide_eq_true (by kernel_rfl)) k1 bel lt1) (trodAll_cons_mk (Below.trod laidOut (by kernel_rfl) (of_decide_eq_true (by kernel_rfl)) k2 bel lt2) (trodAll_cons_mk (Below.trod laidOut (by kernel_rfl) (of_decide_eq_true (by kernel_rfl)) k3 bel lt3) trodAll_mk0)))), rfl, bel.frame _, fun h => by cases h⟩
theorem over : Rows.chainBesideRow.holds Try.pinned (OpenSpec.ofChange Rows.chainBesideSpec) :=
  OpenClaim.holds_of_wide 4 Try.f4 rfl rfl rfl rfl rfl rfl rfl ⟨rfl, rfl, rfl, rfl, rfl⟩ rfl rfl rfl rfl rfl (by kernel_rfl) Try.func4 (by kernel_rfl)
    (of_decide_eq_true (by kernel_rfl)) (by unfold Func.isWrapper; first | (rw [if_pos (by decide +kernel)]; kernel_rfl) | (rw [if_neg (by decide +kernel)]; exact ⟨rfl, rfl⟩))
    (fun os started H enc _ => lifted os started H enc)
theorem proved : Rows.ChainBesideSaid := over
#print axioms proved
end Go.Proofs.Ytbeloaccgmgocaa.chainBeside
namespace Go.Proofs.Ytbeloaccgmgocaa
/-- The row, under a short name, for the claim. -/
theorem chainBeside_holds : Rows.ChainBesideSaid := chainBeside.proved
end Go.Proofs.Ytbeloaccgmgocaa
end
