/- rootcellarlaw10.shown answers true. No conditions. -/
import Derived.Test.YtolpnbeepiblkaaImagePut
namespace Go.Proofs.Ytolpnbeepiblkaa
open Go.RowKit
open Go.BigFrame
set_option linter.unusedVariables false
def shownL : List UInt8 := [114, 99, 105, 109, 2, 0, 0, 0, 1, 0, 0, 0, 9, 2, 1, 0]
theorem shown_put : putR 2 1 9 [((8 : Int), (⟨#[]⟩ : ByteArray))] = (bs (sealed shownL), 0) := by
  unfold putR
  rw [if_pos (by decide +kernel)]
  rw [show bodyL (2 : Int).toNat (1 : Int).toNat (9 : Int).toNat [((8 : Int), (⟨#[]⟩ : ByteArray))] = shownL by decide +kernel]
set_option maxRecDepth 100000 in
theorem shown10_any (w : World) : Calls Try.prog 9 #[] w fun e w' => e = .returned (.bool true) ∧ Below w.heap.size w w' := by
  have hrow : CRow (w.alloc (.cells #[.int .i64 8, .string ⟨#[]⟩] 33)) (some ⟨w.heap.size, 0, none⟩) 1 [((8 : Int), (⟨#[]⟩ : ByteArray))] := by
    refine ⟨rfl, ?_, fun _ => ⟨w.heap.size, 0, rfl, by simp, ?_⟩⟩
    · intro c hc
      simp at hc
      subst hc
      exact Nat.zero_le _
    · intro i hi
      have hi' : i = 0 := by simpa using hi
      subst hi'
      have hb := Blk.new w 33 #[.int .i64 8, .string ⟨#[]⟩]
      exact ⟨hb.cell 0, hb.cell 1⟩
  have hput := iput_any (some ⟨w.heap.size, 0, none⟩) 1 1 2 1 9 [((8 : Int), (⟨#[]⟩ : ByteArray))] _ (by unfold maxLen; omega) hrow
  rw [shown_put] at hput
  have hts : (bs (sealed shownL)).size ≤ maxLen := by rw [bs_size, sealed_length]; unfold maxLen; decide
  have htk := fun w => stake_any (bs (sealed shownL)) hts w
  rw [bs_list, tk_sealed] at htk
  obtain ⟨sl, hsl⟩ : ∃ sl, sl = bs (sealed shownL) := ⟨_, rfl⟩
  rw [← hsl] at hput htk
  have hsw : (bs shownL).toList == [114, 99, 105, 109, 2, 0, 0, 0, 1, 0, 0, 0, 9, 2, 1, 0] := by decide +kernel
  have HP := Lib.hid hput
  have HK := Lib.hid htk
  have h1 : Below w.heap.size w (w.alloc (.cells #[.int .i64 8, .string ⟨#[]⟩] 33)) := (Below.refl _ _).alloc (Nat.le_refl _) _
  have H1 := Lib.hid h1
  clear hput htk hts hsl hrow h1
  go_enter Try.func9, Try.ntmps9
  go_wp2_with fail
  refine HP.out.mono ?_
  rintro e w1 ⟨rfl, hb1⟩
  go_wp2_with fail
  refine (HK.out _).mono ?_
  rintro e w2 ⟨rfl, hb2⟩
  go_wp2_with fail
  go_ret
  exact ⟨rfl, bt (H1.out.trans (hb1.mono (by simp))) hb2⟩
end Go.Proofs.Ytolpnbeepiblkaa
