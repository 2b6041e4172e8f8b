/- An argument that is an image.File: what its cells are. -/
import Derived.Test.YtolpnbeepiblkaaOpenCells
namespace Go.Proofs.Ytolpnbeepiblkaa
open Go.RowKit Go.Deep Go.ChangeShapes Go.WideShapes
theorem open_file {H : Type} {enc : TypeId × Value → H} {W : World} {r : Reach} {b0 : Nat} {v : Value} {d : DataW H} {p : List MemPlace} (hv : Value.okWide Try.prog W r b0 26 v) (h : DataW.Trod enc Try.prog W 0 (fun _ => true) true 26 v d p) :
    ∃ (id parent clusters : Int) (A : Option Addr) (len cap : Nat) (cs : List C), v = .agg #[.int .i64 id, .int .i64 parent, .int .i64 clusters, .slice A len cap] ∧ (Lit.int .i64 id).wf = true ∧ (Lit.int .i64 parent).wf = true ∧ (Lit.int .i64 clusters).wf = true ∧ len ≤ maxLen ∧ CRow W A len cs ∧ len ≤ cap := by
  obtain ⟨cs, rfl, hsz⟩ := okWide_struct Try.underlying26 hv
  obtain ⟨l⟩ := cs
  have h4 : l.length = 4 := hsz.trans (by kernel_rfl)
  match l, h4 with
  | [c0, c1, c2, c3], _ =>
    obtain ⟨fuel, hf⟩ := h
    obtain ⟨xs, n, _, hx, _, hlen, hg⟩ := DataW.trod_struct Try.underlying26 hf
    have t0 : DataW.trod enc Try.prog W 0 (fun _ => true) true n 3 (([c0, c1, c2, c3].drop 0).take (Try.prog.cellsOf 3)) = xs[0]? := hg 0 _ rfl
    have t1 : DataW.trod enc Try.prog W 0 (fun _ => true) true n 3 (([c0, c1, c2, c3].drop 1).take (Try.prog.cellsOf 3)) = xs[1]? := hg 1 _ rfl
    have t2 : DataW.trod enc Try.prog W 0 (fun _ => true) true n 24 (([c0, c1, c2, c3].drop 2).take (Try.prog.cellsOf 24)) = xs[2]? := hg 2 _ rfl
    have hlen' : xs.length = 3 := hlen
    rw [show xs[0]? = some (xs[0]'(by omega)) from List.getElem?_eq_getElem _] at t0
    rw [show xs[1]? = some (xs[1]'(by omega)) from List.getElem?_eq_getElem _] at t1
    rw [show xs[2]? = some (xs[2]'(by omega)) from List.getElem?_eq_getElem _] at t2
    rw [show Try.prog.cellsOf 3 = 1 by kernel_rfl] at t0 t1
    rw [show Try.prog.cellsOf 24 = 2 by kernel_rfl] at t2
    obtain ⟨z0, e0, _, hw0⟩ := DataW.trod_int Try.underlying3 t0
    obtain ⟨z1, e1, _, hw1⟩ := DataW.trod_int Try.underlying3 t1
    obtain ⟨z2, A, len, cap, cs, e2, e3, hw2, hl, hr⟩ := open_image_cells (c0 := c2) (c1 := c3) t2
    have e0' : c0 = .int .i64 z0 := by simpa using e0
    have e1' : c1 = .int .i64 z1 := by simpa using e1
    subst e0' e1' e2 e3
    exact ⟨z0, z1, z2, A, len, cap, cs, rfl, hw0, hw1, hw2, hl, hr⟩
end Go.Proofs.Ytolpnbeepiblkaa
