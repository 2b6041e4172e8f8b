/- The walk of rootcellarlaw2.LeLaws: it returns true whatever is handed in; nothing that was there is turned. Conditions: numbers fit their kinds. -/
import Derived.Test.YtcgmgfhnpjojaaaLeWalk
namespace Go.Proofs.Ytcgmgfhnpjojaaa
open Go.RowKit
set_option linter.unusedVariables false
theorem addR_comm (a b : Nat) : addR b a = addR a b := by unfold addR; rw [Nat.add_comm]
theorem mulR_comm (a b : Nat) : mulR b a = mulR a b := by unfold mulR; rw [Nat.mul_comm]
theorem addR_lt (a b : Nat) : (addR a b).1 < 18446744073709551616 := by unfold addR; split <;> simp <;> omega
theorem mulR_lt (a b : Nat) : (mulR a b).1 < 18446744073709551616 := by unfold mulR; split <;> simp <;> omega
theorem addR_yes (a b : Nat) (h : (addR a b).2 = true) : (addR a b).1 = a + b ∧ a + b < 18446744073709551616 := by
  unfold addR at h ⊢
  split
  · exact ⟨rfl, by assumption⟩
  · rename_i hn; rw [if_neg hn] at h; cases h
theorem mulR_yes (a b : Nat) (h : (mulR a b).2 = true) : (mulR a b).1 = a * b := by
  unfold mulR at h ⊢
  split
  · rfl
  · rename_i hn; rw [if_neg hn] at h; cases h
theorem addR_assoc (a b c : Nat) (h : (addR a b).2 = true) (k : (addR b c).2 = true) : addR (addR a b).1 c = addR a (addR b c).1 := by
  rw [(addR_yes a b h).1, (addR_yes b c k).1]
  unfold addR
  rw [Nat.add_assoc]
set_option maxRecDepth 100000 in
set_option maxHeartbeats 3200000 in
theorem leLaws_walk (a0 b0 c0 : Int) (w : World) (w0 : (Lit.int .u64 a0).wf = true) (w1 : (Lit.int .u64 b0).wf = true) (w2 : (Lit.int .u64 c0).wf = true) :
    Calls Try.prog 9 #[.int .u64 a0, .int .u64 b0, .int .u64 c0] w fun e w' => e = .returned (.bool true) ∧ Below w.heap.size w w' := by
  obtain ⟨a, rfl, ha⟩ := u64_nat w0
  obtain ⟨b, rfl, hb⟩ := u64_nat w1
  obtain ⟨c, rfl, hc⟩ := u64_nat w2
  clear w0 w1 w2
  have h1 := fun (w : World) => add_any a b ha hb w
  have h2 := fun (w : World) => add_any b a hb ha w
  have h3 := fun (w : World) => mul_any a b ha hb w
  have h4 := fun (w : World) => mul_any b a hb ha w
  have h5 := fun (w : World) => add_any (addR a b).1 c (addR_lt _ _) hc w
  have h6 := fun (w : World) => add_any b c hb hc w
  have h7 := fun (w : World) => add_any a (addR b c).1 ha (addR_lt _ _) w
  rw [addR_comm] at h2
  rw [mulR_comm] at h4
  have f1 := addR_yes a b
  have f3 := mulR_yes a b
  have f5 := addR_assoc a b c
  have l1 := addR_lt a b
  have l3 := mulR_lt a b
  have l6 := addR_lt b c
  generalize addR a b = p1 at *
  generalize mulR a b = p3 at *
  generalize addR b c = p6 at *
  generalize addR p1.1 c = p5 at *
  generalize addR a p6.1 = p7 at *
  obtain ⟨x, one⟩ := p1
  obtain ⟨z, three⟩ := p3
  obtain ⟨t, six⟩ := p6
  obtain ⟨s, five⟩ := p5
  obtain ⟨u, seven⟩ := p7
  dsimp only at h1 h2 h3 h4 h5 h6 h7 f1 f3 f5 l1 l3 l6
  have H1 := Lib.hid h1
  have H2 := Lib.hid h2
  have H3 := Lib.hid h3
  have H4 := Lib.hid h4
  have H5 := Lib.hid h5
  have H6 := Lib.hid h6
  have H7 := Lib.hid h7
  clear h1 h2 h3 h4 h5 h6 h7
  have F1 : Hid (one = true → ((x : Int) - (a : Int) != (b : Int)) = false ∧ (a : Int) ≤ (x : Int)) := fun h => by
    obtain ⟨e, _⟩ := f1 h
    refine ⟨?_, by omega⟩
    simp; omega
  have F3 : Hid (three = true → 0 < a → (IntKind.u64.wrap ((z : Int) / (a : Int)) != (b : Int)) = false) := fun h hp => by
    have e := f3 h
    rw [e, Int.natCast_mul, Int.mul_ediv_cancel_left _ (by omega), IntKind.wrap_u64, Int.emod_eq_of_lt (by omega) (by omega)]
    simp
  have F5 : Hid (one = true → six = true → five = seven ∧ s = u) := fun h k => by
    have := f5 h k
    injection this with e1 e2
    exact ⟨e2, e1⟩
  clear f1 f3 f5
  by_cases hp : 0 < a
  · have hpi : (0 : Int) < (a : Int) := by omega
    cases one
    · cases three
      · skip
        go_enter Try.func9, Try.ntmps9
        go_wp2_with fail
        refine (shown2_any _).mono ?_
        rintro e w1 ⟨rfl, hb1⟩
        go_wp2_with fail
        refine (H1.out _).mono ?_
        rintro e w2 ⟨rfl, rfl⟩
        go_wp2_with fail
        refine (H2.out _).mono ?_
        rintro e w2 ⟨rfl, rfl⟩
        go_wp2_with fail
        refine (H3.out _).mono ?_
        rintro e w2 ⟨rfl, rfl⟩
        go_wp2_with fail
        refine (H4.out _).mono ?_
        rintro e w2 ⟨rfl, rfl⟩
        go_wp2_with fail
        refine (H5.out _).mono ?_
        rintro e w2 ⟨rfl, rfl⟩
        go_wp2_with fail
        refine (H6.out _).mono ?_
        rintro e w2 ⟨rfl, rfl⟩
        go_wp2_with fail
        refine (H7.out _).mono ?_
        rintro e w2 ⟨rfl, rfl⟩
        go_wp2_with fail
        go_ret
        exact ⟨by simp, hb1⟩
      · have g3 := F3.out rfl hp
        go_enter Try.func9, Try.ntmps9
        go_wp2_with fail
        refine (shown2_any _).mono ?_
        rintro e w1 ⟨rfl, hb1⟩
        go_wp2_with fail
        refine (H1.out _).mono ?_
        rintro e w2 ⟨rfl, rfl⟩
        go_wp2_with fail
        refine (H2.out _).mono ?_
        rintro e w2 ⟨rfl, rfl⟩
        go_wp2_with fail
        refine (H3.out _).mono ?_
        rintro e w2 ⟨rfl, rfl⟩
        go_wp2_with fail
        refine (H4.out _).mono ?_
        rintro e w2 ⟨rfl, rfl⟩
        go_wp2_with fail
        refine (H5.out _).mono ?_
        rintro e w2 ⟨rfl, rfl⟩
        go_wp2_with fail
        refine (H6.out _).mono ?_
        rintro e w2 ⟨rfl, rfl⟩
        go_wp2_with fail
        refine (H7.out _).mono ?_
        rintro e w2 ⟨rfl, rfl⟩
        go_wp2_with fail
        go_ret
        exact ⟨by simp, hb1⟩
    · obtain ⟨g1, g2⟩ := F1.out rfl
      cases six
      · skip
        cases three
        · skip
          go_enter Try.func9, Try.ntmps9
          go_wp2_with fail
          refine (shown2_any _).mono ?_
          rintro e w1 ⟨rfl, hb1⟩
          go_wp2_with fail
          refine (H1.out _).mono ?_
          rintro e w2 ⟨rfl, rfl⟩
          go_wp2_with fail
          refine (H2.out _).mono ?_
          rintro e w2 ⟨rfl, rfl⟩
          go_wp2_with fail
          refine (H3.out _).mono ?_
          rintro e w2 ⟨rfl, rfl⟩
          go_wp2_with fail
          refine (H4.out _).mono ?_
          rintro e w2 ⟨rfl, rfl⟩
          go_wp2_with fail
          refine (H5.out _).mono ?_
          rintro e w2 ⟨rfl, rfl⟩
          go_wp2_with fail
          refine (H6.out _).mono ?_
          rintro e w2 ⟨rfl, rfl⟩
          go_wp2_with fail
          refine (H7.out _).mono ?_
          rintro e w2 ⟨rfl, rfl⟩
          go_wp2_with fail
          go_ret
          exact ⟨by simp, hb1⟩
        · have g3 := F3.out rfl hp
          go_enter Try.func9, Try.ntmps9
          go_wp2_with fail
          refine (shown2_any _).mono ?_
          rintro e w1 ⟨rfl, hb1⟩
          go_wp2_with fail
          refine (H1.out _).mono ?_
          rintro e w2 ⟨rfl, rfl⟩
          go_wp2_with fail
          refine (H2.out _).mono ?_
          rintro e w2 ⟨rfl, rfl⟩
          go_wp2_with fail
          refine (H3.out _).mono ?_
          rintro e w2 ⟨rfl, rfl⟩
          go_wp2_with fail
          refine (H4.out _).mono ?_
          rintro e w2 ⟨rfl, rfl⟩
          go_wp2_with fail
          refine (H5.out _).mono ?_
          rintro e w2 ⟨rfl, rfl⟩
          go_wp2_with fail
          refine (H6.out _).mono ?_
          rintro e w2 ⟨rfl, rfl⟩
          go_wp2_with fail
          refine (H7.out _).mono ?_
          rintro e w2 ⟨rfl, rfl⟩
          go_wp2_with fail
          go_ret
          exact ⟨by simp, hb1⟩
      · obtain ⟨rfl, rfl⟩ := F5.out rfl rfl
        cases three
        · skip
          go_enter Try.func9, Try.ntmps9
          go_wp2_with fail
          refine (shown2_any _).mono ?_
          rintro e w1 ⟨rfl, hb1⟩
          go_wp2_with fail
          refine (H1.out _).mono ?_
          rintro e w2 ⟨rfl, rfl⟩
          go_wp2_with fail
          refine (H2.out _).mono ?_
          rintro e w2 ⟨rfl, rfl⟩
          go_wp2_with fail
          refine (H3.out _).mono ?_
          rintro e w2 ⟨rfl, rfl⟩
          go_wp2_with fail
          refine (H4.out _).mono ?_
          rintro e w2 ⟨rfl, rfl⟩
          go_wp2_with fail
          refine (H5.out _).mono ?_
          rintro e w2 ⟨rfl, rfl⟩
          go_wp2_with fail
          refine (H6.out _).mono ?_
          rintro e w2 ⟨rfl, rfl⟩
          go_wp2_with fail
          refine (H7.out _).mono ?_
          rintro e w2 ⟨rfl, rfl⟩
          go_wp2_with fail
          go_ret
          exact ⟨by simp, hb1⟩
        · have g3 := F3.out rfl hp
          go_enter Try.func9, Try.ntmps9
          go_wp2_with fail
          refine (shown2_any _).mono ?_
          rintro e w1 ⟨rfl, hb1⟩
          go_wp2_with fail
          refine (H1.out _).mono ?_
          rintro e w2 ⟨rfl, rfl⟩
          go_wp2_with fail
          refine (H2.out _).mono ?_
          rintro e w2 ⟨rfl, rfl⟩
          go_wp2_with fail
          refine (H3.out _).mono ?_
          rintro e w2 ⟨rfl, rfl⟩
          go_wp2_with fail
          refine (H4.out _).mono ?_
          rintro e w2 ⟨rfl, rfl⟩
          go_wp2_with fail
          refine (H5.out _).mono ?_
          rintro e w2 ⟨rfl, rfl⟩
          go_wp2_with fail
          refine (H6.out _).mono ?_
          rintro e w2 ⟨rfl, rfl⟩
          go_wp2_with fail
          refine (H7.out _).mono ?_
          rintro e w2 ⟨rfl, rfl⟩
          go_wp2_with fail
          go_ret
          exact ⟨by simp, hb1⟩
  · have hpi : ¬ (0 : Int) < (a : Int) := by omega
    cases one
    · cases three
      · skip
        go_enter Try.func9, Try.ntmps9
        go_wp2_with fail
        refine (shown2_any _).mono ?_
        rintro e w1 ⟨rfl, hb1⟩
        go_wp2_with fail
        refine (H1.out _).mono ?_
        rintro e w2 ⟨rfl, rfl⟩
        go_wp2_with fail
        refine (H2.out _).mono ?_
        rintro e w2 ⟨rfl, rfl⟩
        go_wp2_with fail
        refine (H3.out _).mono ?_
        rintro e w2 ⟨rfl, rfl⟩
        go_wp2_with fail
        refine (H4.out _).mono ?_
        rintro e w2 ⟨rfl, rfl⟩
        go_wp2_with fail
        refine (H5.out _).mono ?_
        rintro e w2 ⟨rfl, rfl⟩
        go_wp2_with fail
        refine (H6.out _).mono ?_
        rintro e w2 ⟨rfl, rfl⟩
        go_wp2_with fail
        refine (H7.out _).mono ?_
        rintro e w2 ⟨rfl, rfl⟩
        go_wp2_with fail
        go_ret
        exact ⟨by simp, hb1⟩
      · skip
        go_enter Try.func9, Try.ntmps9
        go_wp2_with fail
        refine (shown2_any _).mono ?_
        rintro e w1 ⟨rfl, hb1⟩
        go_wp2_with fail
        refine (H1.out _).mono ?_
        rintro e w2 ⟨rfl, rfl⟩
        go_wp2_with fail
        refine (H2.out _).mono ?_
        rintro e w2 ⟨rfl, rfl⟩
        go_wp2_with fail
        refine (H3.out _).mono ?_
        rintro e w2 ⟨rfl, rfl⟩
        go_wp2_with fail
        refine (H4.out _).mono ?_
        rintro e w2 ⟨rfl, rfl⟩
        go_wp2_with fail
        refine (H5.out _).mono ?_
        rintro e w2 ⟨rfl, rfl⟩
        go_wp2_with fail
        refine (H6.out _).mono ?_
        rintro e w2 ⟨rfl, rfl⟩
        go_wp2_with fail
        refine (H7.out _).mono ?_
        rintro e w2 ⟨rfl, rfl⟩
        go_wp2_with fail
        go_ret
        exact ⟨by simp, hb1⟩
    · obtain ⟨g1, g2⟩ := F1.out rfl
      cases six
      · skip
        cases three
        · skip
          go_enter Try.func9, Try.ntmps9
          go_wp2_with fail
          refine (shown2_any _).mono ?_
          rintro e w1 ⟨rfl, hb1⟩
          go_wp2_with fail
          refine (H1.out _).mono ?_
          rintro e w2 ⟨rfl, rfl⟩
          go_wp2_with fail
          refine (H2.out _).mono ?_
          rintro e w2 ⟨rfl, rfl⟩
          go_wp2_with fail
          refine (H3.out _).mono ?_
          rintro e w2 ⟨rfl, rfl⟩
          go_wp2_with fail
          refine (H4.out _).mono ?_
          rintro e w2 ⟨rfl, rfl⟩
          go_wp2_with fail
          refine (H5.out _).mono ?_
          rintro e w2 ⟨rfl, rfl⟩
          go_wp2_with fail
          refine (H6.out _).mono ?_
          rintro e w2 ⟨rfl, rfl⟩
          go_wp2_with fail
          refine (H7.out _).mono ?_
          rintro e w2 ⟨rfl, rfl⟩
          go_wp2_with fail
          go_ret
          exact ⟨by simp, hb1⟩
        · skip
          go_enter Try.func9, Try.ntmps9
          go_wp2_with fail
          refine (shown2_any _).mono ?_
          rintro e w1 ⟨rfl, hb1⟩
          go_wp2_with fail
          refine (H1.out _).mono ?_
          rintro e w2 ⟨rfl, rfl⟩
          go_wp2_with fail
          refine (H2.out _).mono ?_
          rintro e w2 ⟨rfl, rfl⟩
          go_wp2_with fail
          refine (H3.out _).mono ?_
          rintro e w2 ⟨rfl, rfl⟩
          go_wp2_with fail
          refine (H4.out _).mono ?_
          rintro e w2 ⟨rfl, rfl⟩
          go_wp2_with fail
          refine (H5.out _).mono ?_
          rintro e w2 ⟨rfl, rfl⟩
          go_wp2_with fail
          refine (H6.out _).mono ?_
          rintro e w2 ⟨rfl, rfl⟩
          go_wp2_with fail
          refine (H7.out _).mono ?_
          rintro e w2 ⟨rfl, rfl⟩
          go_wp2_with fail
          go_ret
          exact ⟨by simp, hb1⟩
      · obtain ⟨rfl, rfl⟩ := F5.out rfl rfl
        cases three
        · skip
          go_enter Try.func9, Try.ntmps9
          go_wp2_with fail
          refine (shown2_any _).mono ?_
          rintro e w1 ⟨rfl, hb1⟩
          go_wp2_with fail
          refine (H1.out _).mono ?_
          rintro e w2 ⟨rfl, rfl⟩
          go_wp2_with fail
          refine (H2.out _).mono ?_
          rintro e w2 ⟨rfl, rfl⟩
          go_wp2_with fail
          refine (H3.out _).mono ?_
          rintro e w2 ⟨rfl, rfl⟩
          go_wp2_with fail
          refine (H4.out _).mono ?_
          rintro e w2 ⟨rfl, rfl⟩
          go_wp2_with fail
          refine (H5.out _).mono ?_
          rintro e w2 ⟨rfl, rfl⟩
          go_wp2_with fail
          refine (H6.out _).mono ?_
          rintro e w2 ⟨rfl, rfl⟩
          go_wp2_with fail
          refine (H7.out _).mono ?_
          rintro e w2 ⟨rfl, rfl⟩
          go_wp2_with fail
          go_ret
          exact ⟨by simp, hb1⟩
        · skip
          go_enter Try.func9, Try.ntmps9
          go_wp2_with fail
          refine (shown2_any _).mono ?_
          rintro e w1 ⟨rfl, hb1⟩
          go_wp2_with fail
          refine (H1.out _).mono ?_
          rintro e w2 ⟨rfl, rfl⟩
          go_wp2_with fail
          refine (H2.out _).mono ?_
          rintro e w2 ⟨rfl, rfl⟩
          go_wp2_with fail
          refine (H3.out _).mono ?_
          rintro e w2 ⟨rfl, rfl⟩
          go_wp2_with fail
          refine (H4.out _).mono ?_
          rintro e w2 ⟨rfl, rfl⟩
          go_wp2_with fail
          refine (H5.out _).mono ?_
          rintro e w2 ⟨rfl, rfl⟩
          go_wp2_with fail
          refine (H6.out _).mono ?_
          rintro e w2 ⟨rfl, rfl⟩
          go_wp2_with fail
          refine (H7.out _).mono ?_
          rintro e w2 ⟨rfl, rfl⟩
          go_wp2_with fail
          go_ret
          exact ⟨by simp, hb1⟩
end Go.Proofs.Ytcgmgfhnpjojaaa
