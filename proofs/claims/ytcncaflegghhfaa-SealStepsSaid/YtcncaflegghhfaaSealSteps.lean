/- The walk of rootcellarlaw3.SealSteps: it returns true whatever is handed in; nothing that was there is turned. Conditions: the length is that of a text. -/
import Derived.Test.YtcncaflegghhfaaSealWalk
namespace Go.Proofs.Ytcncaflegghhfaa
open Go.RowKit
theorem start_num (r : Crc.R) (c : UInt8) : bits .xor .u32 (bits .xor .u32 (r.toNat : Int) 4294967295) (c.toNat : Int) = ((r ^^^ Crc.ones ^^^ BitVec.ofNat 32 c.toNat).toNat : Int) := by
  have hc := c.toNat_lt
  have h1 : bits .xor .u32 (r.toNat : Int) 4294967295 = ((r ^^^ Crc.ones).toNat : Int) := by
    rw [BitVec.toNat_xor]; exact u32_xor_nat r.toNat 4294967295 (u32_lt r) (by omega)
  rw [h1, u32_xor_nat _ _ (u32_lt _) (by omega), BitVec.toNat_xor _ (BitVec.ofNat 32 c.toNat), BitVec.toNat_ofNat, Nat.mod_eq_of_lt (by omega)]
theorem bit_step (r : Crc.R) : (bits .and .u32 (r.toNat : Int) 1 = 1 ∧ bits .xor .u32 ((r.toNat : Int) / (2 : Int)) 3988292384 = ((Crc.M r).toNat : Int)) ∨ (bits .and .u32 (r.toNat : Int) 1 = 0 ∧ (r.toNat : Int) / (2 : Int) = ((Crc.M r).toNat : Int)) := by
  have hr := u32_lt r
  have h1 : bits .and .u32 (r.toNat : Int) 1 = ((r.toNat % 2 : Nat) : Int) := by
    have := u32_and_nat r.toNat 1 hr (by omega)
    rw [Nat.and_one_is_mod] at this
    exact this
  have hb : r.getLsbD 0 = decide (r.toNat % 2 = 1) := by
    rw [BitVec.getLsbD, Nat.testBit_zero]
  have hd : (r.toNat : Int) / (2 : Int) = ((r.toNat / 2 : Nat) : Int) := rfl
  rw [h1, hd]
  unfold Crc.M
  rw [hb]
  rcases Nat.mod_two_eq_zero_or_one r.toNat with h | h
  · right
    rw [h]
    exact ⟨rfl, by simp [Nat.shiftRight_eq_div_pow]⟩
  · left
    rw [h]
    refine ⟨rfl, ?_⟩
    have h3 := u32_xor_nat (r.toNat / 2) 3988292384 (by omega) (by omega)
    rw [show ((3988292384 : Nat) : Int) = 3988292384 from rfl] at h3
    rw [h3, BitVec.toNat_xor, BitVec.toNat_ushiftRight, Nat.shiftRight_eq_div_pow]
    rfl
set_option maxRecDepth 100000 in
set_option maxHeartbeats 400000 in
theorem sealSteps_walk (s : ByteArray) (c0 : Int) (w : World) (w0 : s.size ≤ maxLen) (w1 : (Lit.int .u8 c0).wf = true) :
    Calls Try.prog 4 #[.string s, .int .u8 c0] w fun e w' => e = .returned (.bool true) ∧ Below w.heap.size w w' := by
  unfold maxLen at w0
  obtain ⟨c, rfl⟩ : ∃ c : UInt8, c0 = (c.toNat : Int) := by
    simp only [Lit.wf, Bool.and_eq_true, decide_eq_true_eq] at w1
    have h1 : IntKind.u8.min = 0 := rfl
    have h2 : IntKind.u8.max = 255 := rfl
    refine ⟨UInt8.ofNat c0.toNat, ?_⟩
    rw [UInt8.toNat_ofNat']
    omega
  clear w1
  have hcl : (c.toNat : Int) < 256 := by have := c.toNat_lt; omega
  by_cases h : s.size ≤ 2000
  · go_enter Try.func4, Try.ntmps4
    go_wp2_with (first
      | (go_at_call 9; refine (shown_any _).mono ?_; rintro e w1 ⟨rfl, hb1⟩)
      | (go_at_call 10; refine (sum_any s (by unfold maxLen; omega) _).mono ?_; rintro e w2 ⟨rfl, hb2⟩))
    obtain ⟨x, hx⟩ : ∃ x, x = Crc.crc s.data.toList ^^^ Crc.ones ^^^ BitVec.ofNat 32 c.toNat := ⟨_, rfl⟩
    have h0 : bits .xor .u32 (bits .xor .u32 ((Crc.crc s.data.toList).toNat : Int) 4294967295) (c.toNat : Int) = (x.toNat : Int) := by rw [hx]; exact start_num _ c
    have HX := Lib.hid hx
    clear hx
    have H0 := Lib.hid h0
    clear h0
    go_loop [6, 7] (fun n i => ∃ k : Nat, k ≤ 8 ∧ i = .int .i64 k ∧ n = .int .u32 ((Crc.Mn k x).toNat : Int)) (fun _ i => 8 - (intOf i).toNat)
    case atStart => exact ⟨0, by omega, rfl, by rw [H0.out]; rfl⟩
    case round =>
      obtain ⟨k, hk, rfl, rfl⟩ := hrel
      by_cases hlt : k < 8
      · have hst := bit_step (Crc.Mn k x)
        have hs2 := Crc.Mn_succ k x
        rw [← hs2] at hst
        obtain ⟨r, hr⟩ : ∃ r, r = (Crc.Mn k x).toNat := ⟨_, rfl⟩
        obtain ⟨z, hz⟩ : ∃ z, z = (Crc.Mn (k + 1) x).toNat := ⟨_, rfl⟩
        rw [← hr, ← hz] at hst
        rw [← hr]
        have HZ := Lib.hid hz
        clear hz hr hs2
        rcases hst with ⟨ha, hb⟩ | ⟨ha, hb⟩
        · go_wp2
          go_round
          case rel => exact ⟨k + 1, by omega, by go_num, by rw [HZ.out]⟩
          case measure => simp [intOf]; omega
        · go_wp2
          go_round
          case rel => exact ⟨k + 1, by omega, by go_num, by rw [HZ.out]⟩
          case measure => simp [intOf]; omega
      · obtain rfl : k = 8 := by omega
        have hbk := ((Blk.new w2 5 #[.int .u8 (c.toNat : Int)]).byts (l := [c]) (fun i hi => by
          have hi0 : i = 0 := by simp at hi; exact hi
          subst hi0; rfl)).back (P := Try.prog) 1 1 rfl 23 9 5 Try.underlying23 Try.underlying5 Try.underlying9
        have hsn := Crc.crc_snoc s.data.toList c
        have hfin : bits .xor .u32 ((Crc.Mn 8 x).toNat : Int) 4294967295 = ((Crc.crc (s.data.toList ++ [c])).toNat : Int) := by
          rw [hsn, ← HX.out, BitVec.toNat_xor]
          exact u32_xor_nat _ 4294967295 (u32_lt _) (by omega)
        have HF := Lib.hid hfin
        have hsz : (s ++ ⟨#[c]⟩ : ByteArray).size = s.size + 1 := by rw [ByteArray.size_append]; rfl
        have HZ := Lib.hid hsz
        clear hfin hsn hsz
        go_wp2_with fail
        refine (sum_any _ (by rw [HZ.out]; unfold maxLen; omega) _).mono ?_
        rintro e w3 ⟨rfl, hb3⟩
        go_wp2_with fail
        go_ret
        refine ⟨ret_bool ?_, bt ((bt hb1 hb2).alloc (Nat.le_trans hb1.size hb2.size) _) hb3⟩
        rw [HF.out]
        exact beq_self_eq_true _
  · go_enter Try.func4, Try.ntmps4
    go_wp2_with (go_at_call 9; refine (shown_any _).mono ?_; rintro e w1 ⟨rfl, hb1⟩)
    go_ret
    exact ⟨rfl, hb1⟩
end Go.Proofs.Ytcncaflegghhfaa
