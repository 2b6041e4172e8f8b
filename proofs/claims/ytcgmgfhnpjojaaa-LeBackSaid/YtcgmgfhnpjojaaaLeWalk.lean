/- The walks of the statements of chapter 2 (le) without loops: each returns true whatever is handed in; nothing that was there is turned. Conditions: lengths are those of texts, numbers fit their kinds. -/
import Derived.Test.YtcgmgfhnpjojaaaLeRest
namespace Go.Proofs.Ytcgmgfhnpjojaaa
open Go.RowKit
set_option linter.unusedVariables false
theorem rd1 : rdN ⟨#[1, 2]⟩ false 1 = (1, ⟨#[2]⟩, false) := by decide +kernel
theorem rd2 : rdN ⟨#[2]⟩ false 2 = (0, ⟨#[2]⟩, true) := by decide +kernel
theorem pt258 : (⟨(LeP.bytes (clamp8 3) 258).toArray⟩ : ByteArray) = ⟨#[2, 1, 0]⟩ := by decide +kernel
set_option maxRecDepth 100000 in
set_option maxHeartbeats 800000 in
theorem shown2_any (w : World) : Calls Try.prog 10 #[] w fun e w' => e = .returned (.bool true) ∧ Below w.heap.size w w' := by
  have h1 := fun (g : Nat) (w : World) hr => number_any g ⟨#[1, 2]⟩ false 1 (by show 2 ≤ maxLen; unfold maxLen; omega) w hr
  rw [rd1] at h1
  have h2 := fun (g : Nat) (w : World) hr => number_any g ⟨#[2]⟩ false 2 (by show 1 ≤ maxLen; unfold maxLen; omega) w hr
  rw [rd2] at h2
  have h3 := fun (w : World) => put_any 258 3 (by omega) w
  rw [pt258] at h3
  have H1 := Lib.hid h1
  have H2 := Lib.hid h2
  have H3 := Lib.hid h3
  clear h1 h2 h3
  go_enter Try.func10, Try.ntmps10
  go_wp2_with fail
  refine (H1.out _ _ (Blk.new w _ _)).mono ?_
  rintro e w1 ⟨rfl, hb1, hg1⟩
  have hB1 : Below w.heap.size w w1 := below_gby ((Below.refl w.heap.size w).alloc (Nat.le_refl _) _) hg1 (by simp) (Nat.le_refl _)
  have HB1 := Lib.hid hb1
  clear hb1 hg1
  go_wp2_with fail
  refine (H2.out _ _ HB1.out).mono ?_
  rintro e w2 ⟨rfl, hb2, hg2⟩
  have hB2 : Below w.heap.size w w2 := below_gby hB1 hg2 hB1.size (Nat.le_refl _)
  have HB2 := Lib.hid hb2
  clear hb2 hg2
  go_wp2_with fail
  refine (H3.out _).mono ?_
  rintro e w3 ⟨rfl, hb3⟩
  have hB3 : Below w.heap.size w w3 := bt hB2 hb3
  have hb4 := HB2.out.below hb3 HB2.out.lt
  have c1 := hb4.cell 1
  rw [show (#[Value.string ⟨#[2]⟩, Value.bool true] : Array Value)[1]? = some (.bool true) from rfl] at c1
  clear hb4 hb3
  go_wp2_with fail
  go_ret
  exact ⟨rfl, hB3⟩
/-! ### LeAdds, LeLaws -/
theorem u64_nat {n : Int} (h : (Lit.int .u64 n).wf = true) : ∃ m : Nat, n = (m : Int) ∧ m < 18446744073709551616 := by
  simp only [Lit.wf, Bool.and_eq_true, decide_eq_true_eq] at h
  have h1 : IntKind.u64.min = 0 := rfl
  have h2 : IntKind.u64.max = 18446744073709551615 := rfl
  exact ⟨n.toNat, by omega, by omega⟩
set_option maxRecDepth 100000 in
set_option maxHeartbeats 800000 in
theorem leAdds_walk (a0 b0 : Int) (w : World) (w0 : (Lit.int .u64 a0).wf = true) (w1 : (Lit.int .u64 b0).wf = true) :
    Calls Try.prog 8 #[.int .u64 a0, .int .u64 b0] w fun e w' => e = .returned (.bool true) ∧ Below w.heap.size w w' := by
  obtain ⟨a, rfl, ha⟩ := u64_nat w0
  obtain ⟨b, rfl, hb⟩ := u64_nat w1
  clear w0 w1
  have h1 := fun (w : World) => add_any a b ha hb w
  have h2 := fun (w : World) => radd_any a b ha hb w
  have h3 := fun (w : World) => mul_any a b ha hb w
  have h4 := fun (w : World) => rmul_any a b ha hb w
  obtain ⟨x, hx⟩ : ∃ x, x = addR a b := ⟨_, rfl⟩
  obtain ⟨y, hy⟩ : ∃ y, y = mulR a b := ⟨_, rfl⟩
  rw [← hx] at h1 h2
  rw [← hy] at h3 h4
  have H1 := Lib.hid h1
  have H2 := Lib.hid h2
  have H3 := Lib.hid h3
  have H4 := Lib.hid h4
  obtain ⟨x1, x2⟩ := x
  obtain ⟨y1, y2⟩ := y
  clear h1 h2 h3 h4 hx hy
  cases x2 <;> cases y2
  all_goals
    go_enter Try.func8, Try.ntmps8
    go_wp2_with fail
    refine (shown2_any _).mono ?_
    rintro e w1 ⟨rfl, hb1⟩
    go_wp2_with fail
    refine (H1.out _).mono ?_
    rintro e w2 ⟨rfl, rfl⟩
    go_wp2_with fail
    refine (H2.out _).mono ?_
    rintro e w2 ⟨rfl, rfl⟩
    go_wp2_with fail
    refine (H3.out _).mono ?_
    rintro e w2 ⟨rfl, rfl⟩
    go_wp2_with fail
    refine (H4.out _).mono ?_
    rintro e w2 ⟨rfl, rfl⟩
    go_wp2_with fail
    go_ret
    exact ⟨by simp, hb1⟩
end Go.Proofs.Ytcgmgfhnpjojaaa
