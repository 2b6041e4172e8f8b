/- The walk of rootcellarlaw2.LeParts, case 1: it returns true; nothing that was there is turned. Conditions: how many bytes are put. -/
import Derived.Test.YtcgmgfhnpjojaaaLeWalk
import Derived.Test.YtcgmgfhnpjojaaaRegion
namespace Go.Proofs.Ytcgmgfhnpjojaaa
open Go.RowKit
set_option linter.unusedVariables false
open Go.BigFrame
theorem shift_back (a k : Nat) (ha : a < 18446744073709551616) (hk : k ≤ 8) :
    ((((a % 256 ^ k : Nat) : Int)) == IntKind.u64.wrap ((a : Int) - IntKind.u64.wrap (IntKind.u64.wrap ((a : Int) / 2 ^ (4 * k) / 2 ^ (4 * k) * 2 ^ (4 * k)) * 2 ^ (4 * k)))) = true := by
  obtain ⟨q, hq, hq2⟩ : ∃ q : Nat, 2 ^ (4 * k) = q ∧ 256 ^ k = q * q := ⟨2 ^ (4 * k), rfl, by rw [← Nat.pow_add, show (256 : Nat) = 2 ^ 8 from rfl, ← Nat.pow_mul]; congr 1; omega⟩
  have hqi : (2 : Int) ^ (4 * k) = (q : Int) := by rw [← hq, Int.natCast_pow]; rfl
  have hqp : 0 < q := by rw [← hq]; exact Nat.two_pow_pos _
  rw [hqi, hq2]
  have e1 : (a : Int) / (q : Int) / (q : Int) = ((a / (q * q) : Nat) : Int) := by rw [← Nat.div_div_eq_div_mul]; rfl
  obtain ⟨m, hm⟩ : ∃ m, m = a / (q * q) := ⟨_, rfl⟩
  have hle : m * (q * q) ≤ a := by rw [hm]; exact Nat.div_mul_le_self _ _
  have hmq : m * q ≤ m * (q * q) := Nat.mul_le_mul_left _ (Nat.le_mul_of_pos_right _ hqp)
  have hmod : a % (q * q) + m * (q * q) = a := by rw [hm, Nat.mul_comm (a / (q * q))]; exact Nat.mod_add_div _ _
  have w1 := mul_wrap m q (m * q) rfl (by omega)
  have hmm : m * q * q = m * (q * q) := Nat.mul_assoc _ _ _
  have w2 := mul_wrap (m * q) q (m * q * q) rfl (by omega)
  rw [e1, ← hm, w1, w2, hmm, IntKind.wrap_u64, beq_iff_eq]
  omega
set_option maxRecDepth 100000 in
set_option maxHeartbeats 1600000 in
theorem leParts_case1 (a : Nat) (ha : a < 18446744073709551616) (k : Nat) (hm0 : 0 < k) (hm8 : k ≤ 8) (p t s : ByteArray) (w2 : s.size ≤ 140737488351232) (hp8 : p.size ≤ 8) (hp8' : 8 ≤ p.size) (hex : p.extract 0 k = t)
    (H1 : Hid (∀ w : World, Calls Try.prog 11 #[.int .u64 (a : Int), .int .i64 8] w fun e w' => e = .returned (.string p) ∧ Below w.heap.size w w'))
    (H2 : Hid (∀ w : World, Calls Try.prog 11 #[.int .u64 (a : Int), .int .i64 (k : Int)] w fun e w' => e = .returned (.string t) ∧ Below w.heap.size w w'))
    (H3 : Hid (∀ w : World, Calls Try.prog 13 #[.string p] w fun e w' => e = .returned (.int .u64 (a : Int)) ∧ Below w.heap.size w w'))
    (H4 : Hid (∀ w : World, Calls Try.prog 13 #[.string (p ++ s)] w fun e w' => e = .returned (.int .u64 (a : Int)) ∧ Below w.heap.size w w'))
    (H5 : Hid (∀ w : World, Calls Try.prog 13 #[.string t] w fun e w' => e = .returned (.int .u64 ((a % 256 ^ k : Nat) : Int)) ∧ Below w.heap.size w w')) (w : World) :
    Calls Try.prog 4 #[.int .u64 (a : Int), .int .i64 (k : Int), .string s] w fun e w' => e = .returned (.bool true) ∧ Below w.heap.size w w' := by
  go_enter Try.func4, Try.ntmps4
  go_wp2_with fail
  refine (shown2_any _).mono ?_
  rintro e w1 ⟨rfl, hb1⟩
  go_wp2_with fail
  refine (H1.out _).mono ?_
  rintro e w2 ⟨rfl, hb2⟩
  go_wp2_with fail
  refine wp_region_behind (by kernel_rfl) (by kernel_rfl) ?_
  repeat (go_big_quiet_step (first
    | (go_at_call 11; exact behind_of (H2.out _))
    | (go_at_call 13; with_reducible exact behind_of (H3.out _))
    | (go_at_call 13; with_reducible exact behind_of (H4.out _))
    | (go_at_call 13; with_reducible exact behind_of (H5.out _))))
  refine wpQuiet_nil ?_
  intro w9 hb9
  go_wp2
  go_ret
  refine ⟨ret_bool ?_, bt (bt hb1 hb2) hb9⟩
  exact shift_back a k ha hm8
end Go.Proofs.Ytcgmgfhnpjojaaa
