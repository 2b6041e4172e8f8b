/- The walk of rootcellarlaw3.SealBack: it returns true whatever is handed in; nothing that was there is turned. Conditions: the length is that of a text. -/
import Derived.Test.YtcncaflegghhfaaSealWalk
import Derived.Test.YtcncaflegghhfaaSeal
namespace Go.Proofs.Ytcncaflegghhfaa
open Go.RowKit
theorem num_sealed (n : Nat) (h : n < 4294967296) : LeP.get (LeP.bytes 4 n) = n := by
  rw [LeP.get_bytes 4 n (by omega)]; exact Nat.mod_eq_of_lt h
theorem tk_sealed (l : List UInt8) : tk (sealed l) = (l, 0) := by
  have hl := sealed_length l
  have hd : (sealed l).drop ((sealed l).length - 4) = LeP.bytes 4 (Crc.crc l).toNat := by
    rw [hl, Nat.add_sub_cancel]; unfold sealed; rw [List.drop_left]
  have ht : (sealed l).take ((sealed l).length - 4) = l := by
    rw [hl, Nat.add_sub_cancel]; unfold sealed; rw [List.take_left]
  unfold tk
  rw [if_neg (by omega), hd, ht, num_sealed _ (u32_lt _), if_pos rfl]
theorem tk_short (l : List UInt8) (h : l.length < 4) : tk l = ([], 10) := by unfold tk; rw [if_pos h]
set_option maxRecDepth 100000 in
set_option maxHeartbeats 400000 in
theorem sealBack_walk (s : ByteArray) (w : World) (w0 : s.size ≤ maxLen) :
    Calls Try.prog 8 #[.string s] w fun e w' => e = .returned (.bool true) ∧ Below w.heap.size w w' := by
  unfold maxLen at w0
  by_cases h : s.size ≤ 2000
  · obtain ⟨p, hp⟩ : ∃ p, p = bs (sealed s.data.toList) := ⟨_, rfl⟩
    have hps : p.size = s.size + 4 := by rw [hp, bs_size, sealed_length, size_list]
    have hput : ∀ w : World, Calls Try.prog 11 #[.string s] w fun e w' => e = .returned (.string p) ∧ Below w.heap.size w w' := by
      rw [hp]; exact sput_any s (by unfold maxLen; omega)
    have htk : ∀ w : World, Calls Try.prog 12 #[.string p] w fun e w' => e = .returned (.tuple #[.string s, .int .i64 0]) ∧ Below w.heap.size w w' := by
      have := stake_any p (by unfold maxLen; omega)
      rw [hp, bs_list, tk_sealed] at this
      rw [hp]
      simpa only [bs_data] using this
    have htk3 : ∀ w : World, Calls Try.prog 12 #[.string (p.extract 0 3)] w fun e w' => e = .returned (.tuple #[.string ByteArray.empty, .int .i64 10]) ∧ Below w.heap.size w w' := by
      have h3 : (p.extract 0 3).size ≤ 3 := by rw [ByteArray.size_extract]; omega
      have := stake_any (p.extract 0 3) (by unfold maxLen; omega)
      rw [tk_short _ (by rw [size_list]; omega)] at this
      exact this
    have HP := Lib.hid hput
    have HT := Lib.hid htk
    have HT3 := Lib.hid htk3
    have HS := Lib.hid hps
    have hps4 : 4 ≤ p.size := by omega
    have hpl : p.size ≤ 2004 := by omega
    have hlen : ((p.size : Int) == (s.size : Int) + 4) = true := by rw [beq_iff_eq]; omega
    clear hput htk htk3 hps hp
    go_enter Try.func8, Try.ntmps8
    go_wp2_with fail
    refine (shown_any _).mono ?_
    rintro e w1 ⟨rfl, hb1⟩
    go_wp2_with fail
    refine (HP.out _).mono ?_
    rintro e w2 ⟨rfl, hb2⟩
    go_wp2_with fail
    refine (HT.out _).mono ?_
    rintro e w3 ⟨rfl, hb3⟩
    go_wp2_with fail
    refine (HT3.out _).mono ?_
    rintro e w4 ⟨rfl, hb4⟩
    go_wp2_with fail
    refine (equal_any s s (by unfold maxLen; omega) (by unfold maxLen; omega) _).mono ?_
    rintro e w5 ⟨rfl, hb5⟩
    go_wp2_with fail
    go_ret
    refine ⟨?_, bt (bt (bt (bt hb1 hb2) hb3) hb4) hb5⟩
    simp
  · go_enter Try.func8, Try.ntmps8
    go_wp2_with (go_at_call 9; refine (shown_any _).mono ?_; rintro e w1 ⟨rfl, hb1⟩)
    go_ret
    exact ⟨rfl, hb1⟩
end Go.Proofs.Ytcncaflegghhfaa
