/- The walks of the statements of chapter 3 (seal): each returns true whatever is handed in; nothing that was there is turned. Conditions: lengths are those of texts. -/
import Derived.Test.YtcncaflegghhfaaSum
namespace Go.Proofs.Ytcncaflegghhfaa
open Go.RowKit
theorem crc_check : (Crc.crc [49, 50, 51, 52, 53, 54, 55, 56, 57]).toNat = 3421780262 := by decide +kernel
theorem crc_none : (Crc.crc []).toNat = 0 := by decide +kernel
theorem sum_check (w : World) : Calls Try.prog 10 #[.string ⟨#[49, 50, 51, 52, 53, 54, 55, 56, 57]⟩] w fun e w' => e = .returned (.int .u32 3421780262) ∧ Below w.heap.size w w' := by
  refine (sum_any ⟨#[49, 50, 51, 52, 53, 54, 55, 56, 57]⟩ (by show 9 ≤ maxLen; unfold maxLen; omega) w).mono ?_
  rintro e w1 ⟨rfl, hb1⟩
  exact ⟨ret_int (congrArg (fun n : Nat => (n : Int)) crc_check), hb1⟩
theorem sum_none (w : World) : Calls Try.prog 10 #[.string ⟨#[]⟩] w fun e w' => e = .returned (.int .u32 0) ∧ Below w.heap.size w w' := by
  refine (sum_any ⟨#[]⟩ (by show 0 ≤ maxLen; unfold maxLen; omega) w).mono ?_
  rintro e w1 ⟨rfl, hb1⟩
  exact ⟨ret_int (congrArg (fun n : Nat => (n : Int)) crc_none), hb1⟩
set_option maxHeartbeats 400000 in
theorem shown_any (w : World) : Calls Try.prog 9 #[] w fun e w' => e = .returned (.bool true) ∧ Below w.heap.size w w' := by
  go_enter Try.func9, Try.ntmps9
  go_wp2_with fail
  refine (sum_check _).mono ?_
  rintro e w1 ⟨rfl, hb1⟩
  go_wp2_with fail
  refine (sum_none _).mono ?_
  rintro e w2 ⟨rfl, hb2⟩
  go_wp2_with fail
  go_ret
  exact ⟨rfl, hb1.trans (hb2.mono hb1.size)⟩
/-! ### SealAffine -/
def mixed (a b c : List UInt8) : List UInt8 := List.zipWith (· ^^^ ·) (List.zipWith (· ^^^ ·) a b) c
def mixTo (a b c : List UInt8) (k : Nat) : List UInt8 := (mixed a b c).take k ++ a.drop k
theorem mixed_length (a b c : List UInt8) (h1 : b.length = a.length) (h2 : c.length = a.length) : (mixed a b c).length = a.length := by
  simp [mixed, h1, h2]
theorem mixTo_length (a b c : List UInt8) (h1 : b.length = a.length) (h2 : c.length = a.length) (k : Nat) (hk : k ≤ a.length) : (mixTo a b c k).length = a.length := by
  have := mixed_length a b c h1 h2
  simp [mixTo]; omega
theorem mixTo_get (a b c : List UInt8) (h1 : b.length = a.length) (h2 : c.length = a.length) (k : Nat) (hk : k < a.length) :
    (mixTo a b c k)[k]'(by rw [mixTo_length a b c h1 h2 k (by omega)]; exact hk) = a[k] := by
  have hl := mixed_length a b c h1 h2
  unfold mixTo
  rw [List.getElem_append_right (by simp; omega)]
  simp [List.length_take, hl, Nat.min_eq_left (Nat.le_of_lt hk)]
theorem mixTo_set (a b c : List UInt8) (h1 : b.length = a.length) (h2 : c.length = a.length) (k : Nat) (hk : k < a.length) :
    (mixTo a b c k).set k (a[k] ^^^ b[k] ^^^ c[k]) = mixTo a b c (k + 1) := by
  have hl := mixed_length a b c h1 h2
  have hm : (mixed a b c)[k]'(by omega) = a[k] ^^^ b[k] ^^^ c[k] := by simp [mixed]
  unfold mixTo
  rw [List.set_append_right _ _ (by simp; omega), List.length_take, hl, Nat.min_eq_left (Nat.le_of_lt hk), Nat.sub_self, List.drop_eq_getElem_cons hk, List.set_cons_zero,
    List.take_succ_eq_append_getElem (by omega), hm, List.append_assoc]
  rfl
set_option maxHeartbeats 400000 in
theorem sealAffine_walk (a b c : ByteArray) (w : World) (w0 : a.size ≤ maxLen) (w1 : b.size ≤ maxLen) (w2 : c.size ≤ maxLen) :
    Calls Try.prog 3 #[.string a, .string b, .string c] w fun e w' => e = .returned (.bool true) ∧ Below w.heap.size w w' := by
  unfold maxLen at w0 w1 w2
  have hcv := fun (w : World) => run_bytes_of_string (P := Try.prog) w 9 23 5 a Try.underlying9 Try.underlying23 Try.underlying5
  by_cases h : a.size ≤ 1000 ∧ b.size = a.size ∧ c.size = a.size
  · obtain ⟨h0, h1, h2⟩ := h
    have e1 : ((b.size : Int) != (a.size : Int)) = false := by simp [h1]
    have e2 : ((c.size : Int) != (a.size : Int)) = false := by simp [h2]
    have H1 := Lib.hid h1
    have H2 := Lib.hid h2
    clear h1 h2
    go_enter Try.func3, Try.ntmps3
    go_wp2_with (go_at_call 9; refine (shown_any _).mono ?_; rintro e w1 ⟨rfl, hb1⟩)
    go_loopw [9] (fun i wr => ∃ k : Nat, k ≤ a.size ∧ i = .int .i64 k ∧ Byts wr w1.heap.size (mixTo a.data.toList b.data.toList c.data.toList k) ∧ Below w.heap.size w wr) (fun i _ => a.size - (intOf i).toNat)
    case atStart => exact ⟨0, by omega, rfl, byts_new w1 a _ _, (hb1.alloc hb1.size _).drew⟩
    case round =>
      obtain ⟨k, hk, rfl, hby, hbel⟩ := hrel
      have L0 : Hid (a.data.toList.length = a.size) := Array.length_toList
      have L1 : Hid (b.data.toList.length = a.data.toList.length) := Array.length_toList.trans (H1.out.trans Array.length_toList.symm)
      have L2 : Hid (c.data.toList.length = a.data.toList.length) := Array.length_toList.trans (H2.out.trans Array.length_toList.symm)
      by_cases hlt : k < a.size
      · have hlb : k < b.size := by have := H1.out; omega
        have hlc : k < c.size := by have := H2.out; omega
        have hcell := hby.cell k (by rw [mixTo_length _ _ _ L1.out L2.out k (by rw [L0.out]; omega), L0.out]; exact hlt)
        have hfro := hby.frozen k (by rw [mixTo_length _ _ _ L1.out L2.out k (by rw [L0.out]; omega), L0.out]; exact hlt)
        rw [mixTo_get _ _ _ L1.out L2.out k (by rw [L0.out]; omega)] at hcell
        go_wp2
        go_region
        go_wp2
        go_roundw
        case rel =>
          have hs := hby.set_ k (by rw [mixTo_length _ _ _ L1.out L2.out k (by rw [L0.out]; omega), L0.out]; exact hlt) (a.data.toList[k]'(by rw [L0.out]; exact hlt) ^^^ b.data.toList[k]'(by rw [L1.out, L0.out]; exact hlt) ^^^ c.data.toList[k]'(by rw [L2.out, L0.out]; exact hlt))
          rw [mixTo_set _ _ _ L1.out L2.out k (by rw [L0.out]; omega)] at hs
          rw [← u8_xor_u, ← u8_xor_u] at hs
          exact ⟨k + 1, by omega, by go_num, hs.drew, (hbel.setCell hb1.size _).drew⟩
        case measure => simp [intOf]; omega
      · obtain rfl : k = a.size := by omega
        have hend : mixTo a.data.toList b.data.toList c.data.toList a.size = mixed a.data.toList b.data.toList c.data.toList := by
          unfold mixTo
          rw [← L0.out, ← mixed_length a.data.toList _ _ L1.out L2.out, List.take_length, List.drop_of_length_le (by rw [mixed_length a.data.toList _ _ L1.out L2.out]; exact Nat.le_refl _), List.append_nil]
        rw [hend] at hby
        have hml : (mixed a.data.toList b.data.toList c.data.toList).length = a.size := (mixed_length _ _ _ L1.out L2.out).trans L0.out
        have haff := Crc.crc_affine a.data.toList b.data.toList c.data.toList L1.out L2.out
        obtain ⟨m, hm⟩ : ∃ m, m = mixed a.data.toList b.data.toList c.data.toList := ⟨_, rfl⟩
        have haff' : Crc.crc m = Crc.crc a.data.toList ^^^ Crc.crc b.data.toList ^^^ Crc.crc c.data.toList := by rw [hm]; exact haff
        rw [← hm] at hby hml
        have hback := hby.back a.size (grownCap w1 a.size 0 5) hml 23 9 5 Try.underlying23 Try.underlying5 Try.underlying9
        have hml' : (⟨m.toArray⟩ : ByteArray).size ≤ maxLen := by show m.toArray.size ≤ maxLen; unfold maxLen; simp only [List.size_toArray]; omega
        have HF := Lib.hid haff'
        clear haff haff' hm hend
        have HM := Lib.hid hml'
        clear hml' hml hcv
        go_wp2_with fail
        refine (sum_any _ HM.out _).mono ?_
        rintro e w2 ⟨rfl, hb2⟩
        go_wp2_with fail
        refine (sum_any _ (by unfold maxLen; omega) _).mono ?_
        rintro e w3 ⟨rfl, hb3⟩
        go_wp2_with fail
        refine (sum_any _ (by unfold maxLen; omega) _).mono ?_
        rintro e w4 ⟨rfl, hb4⟩
        go_wp2_with fail
        refine (sum_any _ (by unfold maxLen; omega) _).mono ?_
        rintro e w5 ⟨rfl, hb5⟩
        go_wp2_with fail
        go_ret
        refine ⟨ret_bool ?_, bt (bt (bt (bt hbel hb2) hb3) hb4) hb5⟩
        rw [u32_xor_nat _ _ (u32_lt _) (u32_lt _), ← BitVec.toNat_xor, u32_xor_nat _ _ (u32_lt _) (u32_lt _), ← BitVec.toNat_xor, HF.out]
        exact beq_self_eq_true _
  · by_cases h0 : a.size ≤ 1000
    · by_cases h1 : b.size = a.size
      · have h2 : ¬ c.size = a.size := fun h2 => h ⟨h0, h1, h2⟩
        have e1 : ((b.size : Int) != (a.size : Int)) = false := by simp [h1]
        have e2 : ((c.size : Int) != (a.size : Int)) = true := by simp; omega
        clear h1 h2 h
        go_enter Try.func3, Try.ntmps3
        go_wp2_with (go_at_call 9; refine (shown_any _).mono ?_; rintro e w1 ⟨rfl, hb1⟩)
        go_ret
        exact ⟨rfl, hb1⟩
      · have e1 : ((b.size : Int) != (a.size : Int)) = true := by simp; omega
        clear h1 h
        go_enter Try.func3, Try.ntmps3
        go_wp2_with (go_at_call 9; refine (shown_any _).mono ?_; rintro e w1 ⟨rfl, hb1⟩)
        go_ret
        exact ⟨rfl, hb1⟩
    · clear h
      go_enter Try.func3, Try.ntmps3
      go_wp2_with (go_at_call 9; refine (shown_any _).mono ?_; rintro e w1 ⟨rfl, hb1⟩)
      go_ret
      exact ⟨rfl, hb1⟩
end Go.Proofs.Ytcncaflegghhfaa
