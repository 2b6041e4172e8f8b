/- The walk of rootcellarlaw2.LeParts, case 0: it returns true; nothing that was there is turned. Conditions: how many bytes are put. -/
import Derived.Test.YtcgmgfhnpjojaaaLeWalk
import Derived.Test.YtcgmgfhnpjojaaaRegion
namespace Go.Proofs.Ytcgmgfhnpjojaaa
open Go.RowKit
set_option linter.unusedVariables false
open Go.BigFrame
set_option maxRecDepth 100000 in
set_option maxHeartbeats 1600000 in
theorem leParts_case0 (a : Nat) (ha : a < 18446744073709551616) (many : Int) (hm : many ≤ 0) (p s : ByteArray) (w2 : s.size ≤ 140737488351232) (hp8 : p.size ≤ 8) (hp8' : 8 ≤ p.size) (hte : ByteArray.empty.toList.isEmpty = true)
    (H1 : Hid (∀ w : World, Calls Try.prog 11 #[.int .u64 (a : Int), .int .i64 8] w fun e w' => e = .returned (.string p) ∧ Below w.heap.size w w'))
    (H2 : Hid (∀ w : World, Calls Try.prog 11 #[.int .u64 (a : Int), .int .i64 many] w fun e w' => e = .returned (.string ByteArray.empty) ∧ Below w.heap.size w w'))
    (H3 : Hid (∀ w : World, Calls Try.prog 13 #[.string p] w fun e w' => e = .returned (.int .u64 (a : Int)) ∧ Below w.heap.size w w'))
    (H4 : Hid (∀ w : World, Calls Try.prog 13 #[.string (p ++ s)] w fun e w' => e = .returned (.int .u64 (a : Int)) ∧ Below w.heap.size w w'))
    (H5 : Hid (∀ w : World, Calls Try.prog 13 #[.string ByteArray.empty] w fun e w' => e = .returned (.int .u64 ((a % 256 ^ 0 : Nat) : Int)) ∧ Below w.heap.size w w')) (w : World) :
    Calls Try.prog 4 #[.int .u64 (a : Int), .int .i64 many, .string s] w fun e w' => e = .returned (.bool true) ∧ Below w.heap.size w w' := by
  go_enter Try.func4, Try.ntmps4
  go_wp2_with fail
  refine (shown2_any _).mono ?_
  rintro e w1 ⟨rfl, hb1⟩
  go_wp2_with fail
  refine (H1.out _).mono ?_
  rintro e w2 ⟨rfl, hb2⟩
  go_wp2_with fail
  refine wp_region_behind (by kernel_rfl) (by kernel_rfl) ?_
  repeat (go_big_quiet_step (first
    | (go_at_call 11; exact behind_of (H2.out _))
    | (go_at_call 13; with_reducible exact behind_of (H3.out _))
    | (go_at_call 13; with_reducible exact behind_of (H4.out _))
    | (go_at_call 13; with_reducible exact behind_of (H5.out _))))
  refine wpQuiet_nil ?_
  intro w9 hb9
  go_wp2
  go_ret
  exact ⟨ret_bool (by simp), bt (bt hb1 hb2) hb9⟩
end Go.Proofs.Ytcgmgfhnpjojaaa
