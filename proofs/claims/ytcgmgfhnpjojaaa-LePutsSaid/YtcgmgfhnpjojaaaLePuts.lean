/- The walk of rootcellarlaw2.LePuts: it returns true whatever is handed in; nothing that was there is turned. Conditions: lengths within the reach, numbers fit their kinds. -/
import Derived.Test.YtcgmgfhnpjojaaaLeWalk
import Derived.Test.YtcgmgfhnpjojaaaRegion
namespace Go.Proofs.Ytcgmgfhnpjojaaa
open Go.RowKit
set_option linter.unusedVariables false
open Go.BigFrame
set_option maxRecDepth 100000 in
set_option maxHeartbeats 800000 in
theorem lePuts_walk (a0 many : Int) (s : ByteArray) (w : World) (w0 : (Lit.int .u64 a0).wf = true) (w1 : (Lit.int .i64 many).wf = true) (w2 : s.size ≤ maxLen) :
    Calls Try.prog 3 #[.int .u64 a0, .int .i64 many, .string s] w fun e w' => e = .returned (.bool true) ∧ Below w.heap.size w w' := by
  obtain ⟨a, rfl, ha⟩ := u64_nat w0
  clear w0
  obtain ⟨x, hx⟩ : ∃ x, x = (⟨(LeP.bytes (clamp8 many) a).toArray⟩ : ByteArray) := ⟨_, rfl⟩
  have h1 := fun (w : World) => put_any a many ha w
  have h2 := fun (w : World) => rput_any a many ha w
  rw [← hx] at h1 h2
  have H1 := Lib.hid h1
  have H2 := Lib.hid h2
  have H3 : Hid (s.size ≤ maxLen) := w2
  clear h1 h2 w1 hx w2
  go_enter Try.func3, Try.ntmps3
  go_wp2_with fail
  refine (shown2_any _).mono ?_
  rintro e w1 ⟨rfl, hb1⟩
  go_wp2_with fail
  refine (H1.out _).mono ?_
  rintro e w2 ⟨rfl, hb2⟩
  go_wp2_with fail
  refine (H2.out _).mono ?_
  rintro e w3 ⟨rfl, hb3⟩
  go_wp2_with fail
  refine (get_any s H3.out _).mono ?_
  rintro e w4 ⟨rfl, hb4⟩
  go_wp2_with fail
  refine (rget_any s H3.out _).mono ?_
  rintro e w5 ⟨rfl, rfl⟩
  go_wp2_with fail
  go_ret
  exact ⟨by simp, bt (bt (bt hb1 hb2) hb3) hb4⟩
end Go.Proofs.Ytcgmgfhnpjojaaa
