/- The contract of image.Right. Conditions: the slice's cells lie; lengths are those of slices. -/
import Derived.Test.YtolpnbeepiblkaaCellRight
namespace Go.Proofs.Ytolpnbeepiblkaa
open Go.RowKit
open Go.BigFrame
set_option linter.unusedVariables false
def frB (id parent clusters : Int) (cs : List C) : Bool := rightB clusters cs && decide (0 < id) && decide (id ≤ 2147483647) && decide (0 ≤ parent) && decide (parent ≤ 2147483647) && decide (parent ≠ id)
set_option maxRecDepth 100000 in
theorem iright_any (A : Option Addr) (len cap : Nat) (id parent clusters : Int) (cs : List C) (w : World) (hl : len ≤ maxLen) (hr : CRow w A len cs) :
    Calls Try.prog 14 #[.agg #[.int .i64 id, .int .i64 parent, .int .i64 clusters, .slice A len cap]] w fun e w' => e = .returned (.bool (frB id parent clusters cs)) ∧ Below w.heap.size w w' := by
  obtain ⟨o, ho⟩ : ∃ o : Obj, o = .cells #[.int .i64 id, .int .i64 parent, .int .i64 clusters, .slice A len cap] 26 := ⟨_, rfl⟩
  have h0 : Below w.heap.size w (w.alloc o) := (Below.refl _ _).alloc (Nat.le_refl _) _
  have hb := Blk.new w 26 #[.int .i64 id, .int .i64 parent, .int .i64 clusters, .slice A len cap]
  rw [← ho] at hb
  have hc := cright_any A len cap clusters cs (w.alloc o) hl (hr.below h0)
  have HC := Lib.hid hc
  have HB := Lib.hid hb
  have H0 := Lib.hid h0
  rw [ho] at HC HB H0
  clear hc hb h0 ho hr hl
  go_enter Try.func14, Try.ntmps14
  go_wp2_with fail
  refine HC.out.mono ?_
  rintro e w1 ⟨rfl, hb1⟩
  have hb := HB.out.below hb1 HB.out.lt
  have c0 := hb.cell 0
  have c1 := hb.cell 1
  rw [show (#[Value.int IntKind.i64 id, .int .i64 parent, .int .i64 clusters, .slice A len cap] : Array Value)[0]? = some (.int .i64 id) from rfl] at c0
  rw [show (#[Value.int IntKind.i64 id, .int .i64 parent, .int .i64 clusters, .slice A len cap] : Array Value)[1]? = some (.int .i64 parent) from rfl] at c1
  have hbel := H0.out.trans (hb1.mono H0.out.size)
  have HBEL := Lib.hid hbel
  clear hb hb1 hbel HC HB H0
  cases hrb : rightB clusters cs with
  | false =>
    have HRB := Lib.hid hrb
    clear hrb
    go_wp2
    go_ret
    exact ⟨ret_bool (by simp [frB, HRB.out]), HBEL.out⟩
  | true =>
    have HRB := Lib.hid hrb
    clear hrb
    by_cases h1 : 0 < id
    · by_cases h2 : id ≤ 2147483647
      · by_cases h3 : 0 ≤ parent
        · by_cases h4 : parent ≤ 2147483647
          · by_cases h5 : parent = id
            · have h5b : (parent != id) = false := by rw [bne_eq_false_iff_eq]; exact h5
              have H5 := Lib.hid h5
              clear h5
              go_wp2
              go_ret
              exact ⟨ret_bool (by simp [frB, H5.out]), HBEL.out⟩
            · have h5b : (parent != id) = true := by rw [bne_iff_ne]; exact h5
              go_wp2
              go_ret
              exact ⟨ret_bool (by simp [frB, HRB.out, h1, h2, h3, h4, h5]), HBEL.out⟩
          · go_wp2
            go_ret
            exact ⟨ret_bool (by simp [frB]; omega), HBEL.out⟩
        · go_wp2
          go_ret
          exact ⟨ret_bool (by simp [frB]; omega), HBEL.out⟩
      · go_wp2
        go_ret
        exact ⟨ret_bool (by simp [frB]; omega), HBEL.out⟩
    · go_wp2
      go_ret
      exact ⟨ret_bool (by simp [frB]; omega), HBEL.out⟩
end Go.Proofs.Ytolpnbeepiblkaa
