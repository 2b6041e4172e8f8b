/- The contracts of seal.Put and seal.Take. Conditions: lengths are those of texts. -/
import Derived.Test.YtolpnbeepiblkaaSum
import Derived.Test.YtolpnbeepiblkaaLe
import Derived.Deep.RegionWith
namespace Go.Proofs.Ytolpnbeepiblkaa
open Go.RowKit
abbrev bs (l : List UInt8) : ByteArray := ⟨l.toArray⟩
theorem bs_size (l : List UInt8) : (bs l).size = l.length := by show l.toArray.size = _; simp
theorem bs_list (l : List UInt8) : (bs l).data.toList = l := by simp
theorem bs_data (s : ByteArray) : bs s.data.toList = s := by simp [bs]
theorem size_list (s : ByteArray) : s.data.toList.length = s.size := Array.length_toList
theorem append_bs (s : ByteArray) (l : List UInt8) : s ++ bs l = bs (s.data.toList ++ l) := by
  apply ByteArray.ext
  rw [ByteArray.data_append]
  apply Array.ext'
  simp
/-- a text and its sum behind it; what is taken off, and the error -/
def sealed (l : List UInt8) : List UInt8 := l ++ LeP.bytes 4 (Crc.crc l).toNat
def tk (l : List UInt8) : List UInt8 × Int :=
  if l.length < 4 then ([], 10) else if LeP.get (l.drop (l.length - 4)) = (Crc.crc (l.take (l.length - 4))).toNat then (l.take (l.length - 4), 0) else ([], 9)
theorem sealed_length (l : List UInt8) : (sealed l).length = l.length + 4 := by simp [sealed, LeP.bytes_length]
set_option maxRecDepth 100000 in
set_option maxHeartbeats 400000 in
theorem sput_any (s : ByteArray) (hs : s.size + 4 ≤ maxLen) (w : World) :
    Calls Try.prog 25 #[.string s] w fun e w' => e = .returned (.string (bs (sealed s.data.toList))) ∧ Below w.heap.size w w' := by
  unfold maxLen at hs
  obtain ⟨n, hn⟩ : ∃ n, n = (Crc.crc s.data.toList).toNat := ⟨_, rfl⟩
  have hlt : n < 4294967296 := by rw [hn]; exact u32_lt _
  have hsum := sum_any s (by unfold maxLen; omega)
  rw [← hn] at hsum
  have HS := Lib.hid hsum
  have HN := Lib.hid hn
  clear hsum hn
  obtain ⟨t, ht⟩ : ∃ t, t = bs (LeP.bytes 4 n) := ⟨_, rfl⟩
  have hts : t.size ≤ 4 := by rw [ht, bs_size, LeP.bytes_length]; omega
  have hput : ∀ w : World, Calls Try.prog 24 #[.int .u64 (n : Int), .int .i64 4] w fun e w' => e = .returned (.string t) ∧ Below w.heap.size w w' := by
    rw [ht]; exact put_any n 4 (by omega)
  have HP := Lib.hid hput
  have HT := Lib.hid ht
  clear hput ht
  go_enter Try.func25, Try.ntmps25
  go_wp2_with fail
  refine (HS.out _).mono ?_
  rintro e w1 ⟨rfl, hb1⟩
  go_wp2_with fail
  refine (HP.out _).mono ?_
  rintro e w2 ⟨rfl, hb2⟩
  go_wp2_with fail
  go_ret
  refine ⟨?_, bt hb1 hb2⟩
  rw [HT.out]
  unfold sealed
  rw [← HN.out, ← append_bs]
  rfl
theorem take_at (l : List UInt8) (k : Nat) : (bs l).extract 0 k = bs (l.take k) := by
  apply ByteArray.ext; apply Array.ext'; rw [ByteArray.data_extract]; simp
theorem extract_list2 (s : ByteArray) (a : Nat) : (s.extract a s.size).data.toList = s.data.toList.drop a := by
  rw [ByteArray.data_extract]; simp [List.take_of_length_le]
theorem tk_test (s : ByteArray) (a b : Nat) (ha : a = s.size - 4) (hb : b = s.size - 4) :
    (((LeP.get (List.take (s.size - a) (List.drop a s.data.toList)) : Nat) : Int) != IntKind.u64.wrap ((Crc.crc (List.take b s.data.toList)).toNat : Int)) =
      !decide (LeP.get (s.data.toList.drop (s.data.toList.length - 4)) = (Crc.crc (s.data.toList.take (s.data.toList.length - 4))).toNat) := by
  have e : List.take (s.size - a) (List.drop a s.data.toList) = s.data.toList.drop (s.data.toList.length - 4) := by
    rw [size_list, ← ha, List.take_of_length_le]
    rw [List.length_drop, size_list]; exact Nat.le_refl _
  have hw : IntKind.u64.wrap ((Crc.crc (List.take b s.data.toList)).toNat : Int) = ((Crc.crc (s.data.toList.take (s.data.toList.length - 4))).toNat : Int) := by
    rw [size_list, ← hb, IntKind.wrap_u64]
    have := u32_lt (Crc.crc (List.take b s.data.toList))
    omega
  rw [e, hw]
  rw [Bool.eq_iff_iff]
  simp only [bne_iff_ne, ne_eq, Bool.not_eq_true', decide_eq_false_iff_not]
  exact not_congr Int.ofNat_inj
theorem tk_bad (s : ByteArray) (h4 : ¬ s.size < 4) (a b : Nat) (ha : a = s.size - 4) (hb : b = s.size - 4)
    (h : (((LeP.get (List.take (s.size - a) (List.drop a s.data.toList)) : Nat) : Int) != IntKind.u64.wrap ((Crc.crc (List.take b s.data.toList)).toNat : Int)) = true) : tk s.data.toList = ([], 9) := by
  rw [tk_test s a b ha hb] at h
  unfold tk
  rw [if_neg (by rw [size_list]; exact h4), if_neg (by simpa using h)]
theorem tk_good (s : ByteArray) (h4 : ¬ s.size < 4) (a b : Nat) (ha : a = s.size - 4) (hb : b = s.size - 4)
    (h : (((LeP.get (List.take (s.size - a) (List.drop a s.data.toList)) : Nat) : Int) != IntKind.u64.wrap ((Crc.crc (List.take b s.data.toList)).toNat : Int)) = false) : tk s.data.toList = ((s.extract 0 (s.size - 4)).data.toList, 0) := by
  rw [tk_test s a b ha hb] at h
  unfold tk
  rw [if_neg (by rw [size_list]; exact h4), if_pos (by simpa using h), extract_list, size_list]
set_option maxRecDepth 100000 in
set_option maxHeartbeats 400000 in
theorem stake_any (s : ByteArray) (hs : s.size ≤ maxLen) (w : World) :
    Calls Try.prog 22 #[.string s] w fun e w' => e = .returned (.tuple #[.string (bs (tk s.data.toList).1), .int .i64 (tk s.data.toList).2]) ∧ Below w.heap.size w w' := by
  unfold maxLen at hs
  by_cases h4 : s.size < 4
  · have ht : tk s.data.toList = ([], 10) := by unfold tk; rw [if_pos (by rw [size_list]; exact h4)]
    rw [ht]
    clear ht
    go_enter Try.func22, Try.ntmps22
    go_wp2_with fail
    go_ret2
    exact ⟨rfl, Below.refl _ _⟩
  · go_enter Try.func22, Try.ntmps22
    go_wp2_with fail
    go_region_with (first
      | (go_at_call 38; refine (get_any _ (by unfold maxLen; simp; omega) _).mono ?_; rintro e w1 ⟨rfl, hb1⟩)
      | (go_at_call 39; refine (sum_any _ (by unfold maxLen; simp; omega) _).mono ?_; rintro e w2 ⟨rfl, hb2⟩))
    all_goals go_wp2
    all_goals go_ret2
    all_goals refine ⟨?_, bt ((Below.refl w.heap.size w).drew.trans hb1) hb2⟩
    all_goals first
      | (rw [show tk s.data.toList = ([], 9) from by
          first
            | exact tk_bad s h4 (s.size - 4) ((s.size : Int) - 4).toNat (by omega) (by omega) (by assumption)
            | exact tk_bad s h4 ((s.size : Int) - 4).toNat (s.size - 4) (by omega) (by omega) (by assumption)]
         rfl)
      | (rw [show tk s.data.toList = ((s.extract 0 (s.size - 4)).data.toList, 0) from by
          first
            | exact tk_good s h4 (s.size - 4) ((s.size : Int) - 4).toNat (by omega) (by omega) (by assumption)
            | exact tk_good s h4 ((s.size : Int) - 4).toNat (s.size - 4) (by omega) (by omega) (by assumption)]
         rw [bs_data]
         rfl)
theorem num_sealed (n : Nat) (h : n < 4294967296) : LeP.get (LeP.bytes 4 n) = n := by
  rw [LeP.get_bytes 4 n (by omega)]; exact Nat.mod_eq_of_lt h
theorem tk_sealed (l : List UInt8) : tk (sealed l) = (l, 0) := by
  have hl := sealed_length l
  have hd : (sealed l).drop ((sealed l).length - 4) = LeP.bytes 4 (Crc.crc l).toNat := by
    rw [hl, Nat.add_sub_cancel]; unfold sealed; rw [List.drop_left]
  have ht : (sealed l).take ((sealed l).length - 4) = l := by
    rw [hl, Nat.add_sub_cancel]; unfold sealed; rw [List.take_left]
  unfold tk
  rw [if_neg (by omega), hd, ht, num_sealed _ (u32_lt _), if_pos rfl]
theorem tk_short (l : List UInt8) (h : l.length < 4) : tk l = ([], 10) := by unfold tk; rw [if_pos h]
end Go.Proofs.Ytolpnbeepiblkaa
