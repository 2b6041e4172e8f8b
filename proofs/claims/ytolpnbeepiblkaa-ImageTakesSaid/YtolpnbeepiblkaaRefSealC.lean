/- The contracts of rootcellarref3.Sum, Put and Take. Conditions: lengths are those of texts. -/
import Derived.Test.YtolpnbeepiblkaaSealC
import Derived.Test.YtolpnbeepiblkaaRefLe
namespace Go.Proofs.Ytolpnbeepiblkaa
open Go.RowKit
theorem bit2_step (r c : Crc.R) : ((bits .and .u32 (bits .xor .u32 (r.toNat : Int) (c.toNat : Int)) 1 = 1 ∧ bits .xor .u32 ((r.toNat : Int) / (2 : Int)) 3988292384 = ((Crc.bitStep (r, c)).1.toNat : Int)) ∨
      (bits .and .u32 (bits .xor .u32 (r.toNat : Int) (c.toNat : Int)) 1 = 0 ∧ (r.toNat : Int) / (2 : Int) = ((Crc.bitStep (r, c)).1.toNat : Int))) ∧
    (c.toNat : Int) / (2 : Int) = ((Crc.bitStep (r, c)).2.toNat : Int) := by
  have hr := u32_lt r
  have hc := u32_lt c
  have hx : bits .xor .u32 (r.toNat : Int) (c.toNat : Int) = ((r ^^^ c).toNat : Int) := by rw [u32_xor_nat _ _ hr hc, BitVec.toNat_xor]
  have h1 : bits .and .u32 ((r ^^^ c).toNat : Int) 1 = (((r ^^^ c).toNat % 2 : Nat) : Int) := by
    have := u32_and_nat (r ^^^ c).toNat 1 (u32_lt _) (by omega)
    rw [Nat.and_one_is_mod] at this
    exact this
  have hb : (r ^^^ (c &&& 1#32)).getLsbD 0 = decide ((r ^^^ c).toNat % 2 = 1) := by
    have e : (r ^^^ c).getLsbD 0 = decide ((r ^^^ c).toNat % 2 = 1) := by rw [BitVec.getLsbD, Nat.testBit_zero]
    rw [← e, BitVec.getLsbD_xor, BitVec.getLsbD_xor, BitVec.getLsbD_and]
    simp
  have hs : (r ^^^ (c &&& 1#32)) >>> 1 = r >>> 1 := by
    rw [BitVec.ushiftRight_xor_distrib]
    have e : (c &&& 1#32) >>> 1 = 0#32 := by
      apply BitVec.eq_of_toNat_eq
      rw [BitVec.toNat_ushiftRight, BitVec.toNat_and, Nat.shiftRight_eq_div_pow]
      have : c.toNat &&& (1#32).toNat = c.toNat % 2 := Nat.and_one_is_mod _
      rw [this]
      simp
    rw [e, BitVec.xor_zero]
  have hd : (r.toNat : Int) / (2 : Int) = ((r.toNat / 2 : Nat) : Int) := rfl
  have hdc : (c.toNat : Int) / (2 : Int) = ((c.toNat / 2 : Nat) : Int) := rfl
  refine ⟨?_, ?_⟩
  · rw [hx, h1, hd]
    unfold Crc.bitStep Crc.M
    rw [hb, hs]
    rcases Nat.mod_two_eq_zero_or_one (r ^^^ c).toNat with h | h
    · right
      rw [h]
      exact ⟨rfl, by simp [Nat.shiftRight_eq_div_pow]⟩
    · left
      rw [h]
      refine ⟨rfl, ?_⟩
      have h3 := u32_xor_nat (r.toNat / 2) 3988292384 (by omega) (by omega)
      rw [show ((3988292384 : Nat) : Int) = 3988292384 from rfl] at h3
      rw [h3]
      show _ = ((r >>> 1 ^^^ Crc.poly).toNat : Int)
      rw [BitVec.toNat_xor, BitVec.toNat_ushiftRight, Nat.shiftRight_eq_div_pow]
      rfl
  · rw [hdc]
    show _ = ((c >>> 1).toNat : Int)
    rw [BitVec.toNat_ushiftRight, Nat.shiftRight_eq_div_pow]
set_option maxRecDepth 100000 in
set_option maxHeartbeats 800000 in
theorem rsum_any (s : ByteArray) (hs : s.size ≤ maxLen) (w : World) :
    Calls Try.prog 31 #[.string s] w fun e w' => e = .returned (.int .u32 ((Crc.crc s.data.toList).toNat : Int)) ∧ w = w' := by
  unfold maxLen at hs
  have hlen : Hid (s.data.toList.length = s.size) := size_list s
  go_enter Try.func31, Try.ntmps31
  go_wp2_with fail
  go_loop [3, 4] (fun n i => ∃ k : Nat, k ≤ s.size ∧ i = .int .i64 k ∧ n = .int .u32 ((Crc.reg Crc.ones (s.data.toList.take k)).toNat : Int)) (fun _ i => s.size - (intOf i).toNat)
  case atStart => exact ⟨0, by omega, rfl, rfl⟩
  case round =>
    obtain ⟨k, hk, rfl, rfl⟩ := hrel
    by_cases hlt : k < s.size
    · have hstep : Crc.reg Crc.ones (s.data.toList.take (k + 1)) = Crc.byteStep (Crc.reg Crc.ones (s.data.toList.take k)) (s.data.toList[k]'(by rw [hlen.out]; exact hlt)) := by
        rw [List.take_succ_eq_append_getElem (by rw [hlen.out]; exact hlt), Crc.reg_append]; rfl
      have hbyte : s.data.toList[k]'(by rw [hlen.out]; exact hlt) = s[k] := rfl
      rw [hbyte] at hstep
      obtain ⟨r, hr⟩ : ∃ r, r = Crc.reg Crc.ones (s.data.toList.take k) := ⟨_, rfl⟩
      rw [← hr] at hstep ⊢
      have HS := Lib.hid hstep
      have hcl : (s[k].toNat : Int) < 256 := by have := s[k].toNat_lt; omega
      clear hstep hbyte hr
      go_wp2_with fail
      go_loop [3, 5, 6] (fun n c j => ∃ i : Nat, i ≤ 8 ∧ j = .int .i64 i ∧ n = .int .u32 ((Crc.bitSteps i (r, BitVec.ofNat 32 s[k].toNat)).1.toNat : Int) ∧ c = .int .u32 ((Crc.bitSteps i (r, BitVec.ofNat 32 s[k].toNat)).2.toNat : Int)) (fun _ _ j => 8 - (intOf j).toNat)
      case atStart =>
        refine ⟨0, by omega, rfl, rfl, ?_⟩
        have e : (Crc.bitSteps 0 (r, BitVec.ofNat 32 s[k].toNat)).2.toNat = s[k].toNat := by
          show (BitVec.ofNat 32 s[k].toNat).toNat = _
          rw [BitVec.toNat_ofNat]; omega
        rw [e]
      case round =>
        obtain ⟨i, hi, rfl, rfl, rfl⟩ := hrel
        by_cases hit : i < 8
        · have hs2 := Crc.bitSteps_succ i (r, BitVec.ofNat 32 s[k].toNat)
          obtain ⟨x, hx⟩ : ∃ x, x = Crc.bitSteps i (r, BitVec.ofNat 32 s[k].toNat) := ⟨_, rfl⟩
          have hst := bit2_step x.1 x.2
          rw [← hx] at hs2 ⊢
          rw [← hs2] at hst
          obtain ⟨a, ha⟩ : ∃ a, a = x.1.toNat := ⟨_, rfl⟩
          obtain ⟨b, hb⟩ : ∃ b, b = x.2.toNat := ⟨_, rfl⟩
          obtain ⟨a', ha'⟩ : ∃ a, a = (Crc.bitSteps (i + 1) (r, BitVec.ofNat 32 s[k].toNat)).1.toNat := ⟨_, rfl⟩
          obtain ⟨b', hb'⟩ : ∃ a, a = (Crc.bitSteps (i + 1) (r, BitVec.ofNat 32 s[k].toNat)).2.toNat := ⟨_, rfl⟩
          rw [← ha, ← hb, ← ha', ← hb'] at hst
          rw [← ha, ← hb]
          have la : a < 4294967296 := by rw [ha]; exact u32_lt _
          have lb : b < 4294967296 := by rw [hb]; exact u32_lt _
          have la' : a' < 4294967296 := by rw [ha']; exact u32_lt _
          have lb' : b' < 4294967296 := by rw [hb']; exact u32_lt _
          have HA := Lib.hid ha'
          have HB := Lib.hid hb'
          clear ha hb ha' hb' hs2 hx
          obtain ⟨hst, hc2⟩ := hst
          rcases hst with ⟨h1, h2⟩ | ⟨h1, h2⟩
          · go_wp2
            go_round
            case rel => exact ⟨i + 1, by omega, by go_num, by rw [HA.out], by rw [HB.out]⟩
            case measure => simp [intOf]; omega
          · go_wp2
            go_round
            case rel => exact ⟨i + 1, by omega, by go_num, by rw [HA.out], by rw [HB.out]⟩
            case measure => simp [intOf]; omega
        · obtain rfl : i = 8 := by omega
          go_wp2
          go_round
          case rel => exact ⟨k + 1, by omega, by go_num, by rw [HS.out, Crc.bitSteps_byte]⟩
          case measure => simp [intOf]; omega
    · obtain rfl : k = s.size := by omega
      go_wp2
      go_ret
      refine ⟨ret_int ?_, rfl⟩
      rw [List.take_of_length_le (by rw [hlen.out]; omega)]
      have := u32_xor_nat (Crc.reg Crc.ones s.data.toList).toNat 4294967295 (u32_lt _) (by omega)
      rw [show ((4294967295 : Nat) : Int) = 4294967295 from rfl] at this
      rw [this, Nat.xor_comm]
      unfold Crc.crc
      rw [BitVec.toNat_xor]
      rfl
set_option maxRecDepth 100000 in
set_option maxHeartbeats 400000 in
theorem rsput_any (s : ByteArray) (hs : s.size + 4 ≤ maxLen) (w : World) :
    Calls Try.prog 19 #[.string s] w fun e w' => e = .returned (.string (bs (sealed s.data.toList))) ∧ Below w.heap.size w w' := by
  unfold maxLen at hs
  obtain ⟨n, hn⟩ : ∃ n, n = (Crc.crc s.data.toList).toNat := ⟨_, rfl⟩
  have hlt : n < 4294967296 := by rw [hn]; exact u32_lt _
  have hsum := rsum_any s (by unfold maxLen; omega)
  rw [← hn] at hsum
  have HS := Lib.hid hsum
  have HN := Lib.hid hn
  clear hsum hn
  obtain ⟨t, ht⟩ : ∃ t, t = bs (LeP.bytes 4 n) := ⟨_, rfl⟩
  have hts : t.size ≤ 4 := by rw [ht, bs_size, LeP.bytes_length]; omega
  have hput : ∀ w : World, Calls Try.prog 28 #[.int .u64 (n : Int), .int .i64 4] w fun e w' => e = .returned (.string t) ∧ Below w.heap.size w w' := by
    rw [ht]; exact rput_any n 4 (by omega)
  have HP := Lib.hid hput
  have HT := Lib.hid ht
  clear hput ht
  go_enter Try.func19, Try.ntmps19
  go_wp2_with fail
  refine (HS.out _).mono ?_
  rintro e w1 ⟨rfl, rfl⟩
  go_wp2_with fail
  refine (HP.out _).mono ?_
  rintro e w2 ⟨rfl, hb2⟩
  go_wp2_with fail
  go_ret
  refine ⟨?_, hb2⟩
  rw [HT.out]
  unfold sealed
  rw [← HN.out, ← append_bs]
  rfl
theorem bytes_ext {a b : ByteArray} (h : a.toList = b.toList) : a = b := by
  have ha : a.data.toList = b.data.toList := by rw [ByteArray.toList_eq, ByteArray.toList_eq] at h; exact h
  rw [← bs_data a, ← bs_data b, ha]
/-- what is taken off just if, sealed again, it is what it was -/
theorem tk_again (l : List UInt8) (h : ¬ l.length < 4) : tk l = if sealed (l.take (l.length - 4)) = l then (l.take (l.length - 4), 0) else ([], 9) := by
  have hs : l.take (l.length - 4) ++ l.drop (l.length - 4) = l := List.take_append_drop _ _
  have hd : (l.drop (l.length - 4)).length = 4 := by rw [List.length_drop]; omega
  have hiff : LeP.get (l.drop (l.length - 4)) = (Crc.crc (l.take (l.length - 4))).toNat ↔ sealed (l.take (l.length - 4)) = l := by
    constructor
    · intro e
      unfold sealed
      rw [← e]
      have hg : LeP.get (l.drop (l.length - 4)) = LeP.num (l.drop (l.length - 4)) := by unfold LeP.get; rw [List.take_of_length_le (by omega)]
      have := LeP.bytes_num (l.drop (l.length - 4))
      rw [hd] at this
      rw [hg, this, hs]
    · intro e
      unfold sealed at e
      have e2 : LeP.bytes 4 (Crc.crc (l.take (l.length - 4))).toNat = l.drop (l.length - 4) := by
        have h3 := e.trans hs.symm
        exact List.append_cancel_left h3
      rw [← e2, num_sealed _ (u32_lt _)]
  unfold tk
  rw [if_neg h]
  by_cases h1 : LeP.get (l.drop (l.length - 4)) = (Crc.crc (l.take (l.length - 4))).toNat
  · rw [if_pos h1, if_pos (hiff.1 h1)]
  · rw [if_neg h1, if_neg (fun e => h1 (hiff.2 e))]
set_option maxRecDepth 100000 in
set_option maxHeartbeats 400000 in
theorem rstake_any (s : ByteArray) (hs : s.size ≤ maxLen) (w : World) :
    Calls Try.prog 35 #[.string s] w fun e w' => e = .returned (.tuple #[.string (bs (tk s.data.toList).1), .int .i64 (tk s.data.toList).2]) ∧ Below w.heap.size w w' := by
  unfold maxLen at hs
  by_cases h4 : s.size < 4
  · have ht : tk s.data.toList = ([], 10) := tk_short _ (by rw [size_list]; exact h4)
    rw [ht]
    clear ht
    go_enter Try.func35, Try.ntmps35
    go_wp2_with fail
    go_ret2
    exact ⟨rfl, Below.refl _ _⟩
  · have ht := tk_again s.data.toList (by rw [size_list]; exact h4)
    rw [size_list] at ht
    have hte : (s.extract 0 (s.size - 4)) = bs (s.data.toList.take (s.size - 4)) := by rw [← extract_list, bs_data]
    have hts : (s.extract 0 (s.size - 4)).size = s.size - 4 := by rw [hte, bs_size, List.length_take, size_list]; omega
    obtain ⟨u, hu⟩ : ∃ u, u = bs (sealed (s.extract 0 (s.size - 4)).data.toList) := ⟨_, rfl⟩
    have hput : ∀ w : World, Calls Try.prog 19 #[.string (s.extract 0 (s.size - 4))] w fun e w' => e = .returned (.string u) ∧ Below w.heap.size w w' := by
      rw [hu]; exact rsput_any (s.extract 0 (s.size - 4)) (by rw [hts]; unfold maxLen; omega)
    have htk : tk s.data.toList = if u = s then ((s.extract 0 (s.size - 4)).data.toList, 0) else ([], 9) := by
      rw [ht]
      have e1 : (s.extract 0 (s.size - 4)).data.toList = s.data.toList.take (s.size - 4) := by rw [hte, bs_list]
      rw [← e1]
      by_cases h1 : sealed (s.extract 0 (s.size - 4)).data.toList = s.data.toList
      · rw [if_pos h1, if_pos (by rw [hu, h1, bs_data])]
      · rw [if_neg h1, if_neg (fun e => h1 (by have h2 := congrArg (fun x : ByteArray => x.data.toList) (hu.symm.trans e); exact h2))]
    have HP := Lib.hid hput
    clear hput ht hts hu hte
    by_cases hus : u = s
    · rw [if_pos hus] at htk
      rw [htk]
      have hq : (u.toList == s.toList) = true := by rw [hus]; exact beq_self_eq_true _
      subst hus
      clear htk
      go_enter Try.func35, Try.ntmps35
      go_wp2_with fail
      refine (HP.out _).mono ?_
      rintro e w1 ⟨rfl, hb1⟩
      go_wp2_with fail
      go_ret2
      exact ⟨by rw [bs_data]; rfl, hb1⟩
    · rw [if_neg hus] at htk
      rw [htk]
      have hq : (u.toList == s.toList) = false := by rw [beq_eq_false_iff_ne]; exact fun e => hus (bytes_ext e)
      clear htk hus
      go_enter Try.func35, Try.ntmps35
      go_wp2_with fail
      refine (HP.out _).mono ?_
      rintro e w1 ⟨rfl, hb1⟩
      go_wp2_with fail
      go_ret2
      exact ⟨rfl, hb1⟩
end Go.Proofs.Ytolpnbeepiblkaa
