/- The walk of rootcellarlaw3.SealOnce: it returns true whatever is handed in; nothing that was there is turned. Conditions: the length is that of a text, the number that of its kind. -/
import Derived.Test.YtcncaflegghhfaaSealBack
namespace Go.Proofs.Ytcncaflegghhfaa
open Go.RowKit
theorem tk_tail (l : List UInt8) (n : Nat) (h : n < 4294967296) : tk (l ++ LeP.bytes 4 n) = if n = (Crc.crc l).toNat then (l, 0) else ([], 9) := by
  have hl : (l ++ LeP.bytes 4 n).length = l.length + 4 := by simp [LeP.bytes_length]
  have hd : (l ++ LeP.bytes 4 n).drop ((l ++ LeP.bytes 4 n).length - 4) = LeP.bytes 4 n := by
    rw [hl, Nat.add_sub_cancel, List.drop_left]
  have ht : (l ++ LeP.bytes 4 n).take ((l ++ LeP.bytes 4 n).length - 4) = l := by
    rw [hl, Nat.add_sub_cancel, List.take_left]
  unfold tk
  rw [if_neg (by omega), hd, ht, num_sealed _ h]
theorem tail_cells (n : Nat) (hn : n < 4294967296) (i : Nat) (hi : i < (LeP.bytes 4 n).length) :
    (#[Value.int IntKind.u8 ((n : Int) % 256), Value.int IntKind.u8 ((n : Int) / 256 % 256), Value.int IntKind.u8 ((n : Int) / 65536 % 256), Value.int IntKind.u8 ((n : Int) / 16777216)])[i]? = some (.int .u8 ((LeP.bytes 4 n)[i].toNat : Int)) := by
  have h4 : i < 4 := by rw [LeP.bytes_length] at hi; exact hi
  have hg := LeP.bytes_get 4 n i h4
  rw [List.getElem?_eq_getElem hi, Option.some.injEq] at hg
  rw [hg, LeP.toNat_ofNat_mod]
  have hc : i = 0 ∨ i = 1 ∨ i = 2 ∨ i = 3 := by omega
  rcases hc with rfl | rfl | rfl | rfl
  · simp
  · simp
  · simp
  · simp; omega
set_option maxRecDepth 100000 in
set_option maxHeartbeats 800000 in
theorem sealOnce_walk (s : ByteArray) (n0 : Int) (w : World) (w0 : s.size ≤ maxLen) (wn : (Lit.int .u32 n0).wf = true) :
    Calls Try.prog 6 #[.string s, .int .u32 n0] w fun e w' => e = .returned (.bool true) ∧ Below w.heap.size w w' := by
  unfold maxLen at w0
  obtain ⟨n, rfl, hn⟩ : ∃ n : Nat, n0 = (n : Int) ∧ n < 4294967296 := by
    simp only [Lit.wf, Bool.and_eq_true, decide_eq_true_eq] at wn
    have h1 : IntKind.u32.min = 0 := rfl
    have h2 : IntKind.u32.max = 4294967295 := rfl
    exact ⟨n0.toNat, by omega, by omega⟩
  clear wn
  by_cases h : s.size ≤ 2000
  · obtain ⟨p, hp⟩ : ∃ p, p = bs (sealed s.data.toList) := ⟨_, rfl⟩
    have hps : p.size = s.size + 4 := by rw [hp, bs_size, sealed_length, size_list]
    obtain ⟨q, hq⟩ : ∃ q, q = bs (sealed p.data.toList) := ⟨_, rfl⟩
    have hqs : q.size = s.size + 8 := by rw [hq, bs_size, sealed_length, size_list]; omega
    have hput : ∀ w : World, Calls Try.prog 11 #[.string s] w fun e w' => e = .returned (.string p) ∧ Below w.heap.size w w' := by
      rw [hp]; exact sput_any s (by unfold maxLen; omega)
    have hput2 : ∀ w : World, Calls Try.prog 11 #[.string p] w fun e w' => e = .returned (.string q) ∧ Below w.heap.size w w' := by
      rw [hq]; exact sput_any p (by unfold maxLen; omega)
    have htk : ∀ w : World, Calls Try.prog 12 #[.string q] w fun e w' => e = .returned (.tuple #[.string p, .int .i64 0]) ∧ Below w.heap.size w w' := by
      have := stake_any q (by unfold maxLen; omega)
      rw [hq, bs_list, tk_sealed] at this
      rw [hq]
      simpa only [bs_data] using this
    have htk2 : ∀ w : World, Calls Try.prog 12 #[.string p] w fun e w' => e = .returned (.tuple #[.string s, .int .i64 0]) ∧ Below w.heap.size w w' := by
      have := stake_any p (by unfold maxLen; omega)
      rw [hp, bs_list, tk_sealed] at this
      rw [hp]
      simpa only [bs_data] using this
    obtain ⟨t, ht⟩ : ∃ t, t = bs (LeP.bytes 4 n) := ⟨_, rfl⟩
    have hbk0 : ∀ w5 : World, (convert 23 9 (Value.slice (some { block := w5.heap.size, off := 0 }) 4 4)).run Try.prog (w5.alloc (Obj.cells #[Value.int IntKind.u8 ((n : Int) % 256), Value.int IntKind.u8 ((n : Int) / 256 % 256), Value.int IntKind.u8 ((n : Int) / 65536 % 256), Value.int IntKind.u8 ((n : Int) / 16777216)] 5)) = .ok (.string t) (w5.alloc (Obj.cells #[Value.int IntKind.u8 ((n : Int) % 256), Value.int IntKind.u8 ((n : Int) / 256 % 256), Value.int IntKind.u8 ((n : Int) / 65536 % 256), Value.int IntKind.u8 ((n : Int) / 16777216)] 5)) := by
      intro w5
      have := ((Blk.new w5 5 #[Value.int IntKind.u8 ((n : Int) % 256), Value.int IntKind.u8 ((n : Int) / 256 % 256), Value.int IntKind.u8 ((n : Int) / 65536 % 256), Value.int IntKind.u8 ((n : Int) / 16777216)]).byts (l := LeP.bytes 4 n) (tail_cells n hn)).back (P := Try.prog) 4 4 (LeP.bytes_length 4 n) 23 9 5 Try.underlying23 Try.underlying5 Try.underlying9
      rw [ht]; exact this
    have hts : t.size ≤ 4 := by rw [ht, bs_size, LeP.bytes_length]; omega
    obtain ⟨m, hm⟩ : ∃ m, m = (Crc.crc s.data.toList).toNat := ⟨_, rfl⟩
    have hsum : ∀ w : World, Calls Try.prog 10 #[.string s] w fun e w' => e = .returned (.int .u32 (m : Int)) ∧ Below w.heap.size w w' := by
      rw [hm]; exact sum_any s (by unfold maxLen; omega)
    have htt : ∀ w : World, Calls Try.prog 12 #[.string (s ++ t)] w fun e w' => (n = m → e = .returned (.tuple #[.string s, .int .i64 0])) ∧ (n ≠ m → e = .returned (.tuple #[.string ⟨#[]⟩, .int .i64 9])) ∧ Below w.heap.size w w' := by
      intro w
      refine (stake_any (s ++ t) (by rw [ByteArray.size_append]; unfold maxLen; omega) w).mono ?_
      rintro e w' ⟨rfl, hb⟩
      rw [ht, append_bs, bs_list, tk_tail _ n hn, ← hm]
      refine ⟨fun h => ?_, fun h => ?_, hb⟩
      · rw [if_pos h, bs_data]
      · rw [if_neg h]
    have HB := Lib.hid hbk0
    have HS := Lib.hid hsum
    have HTT := Lib.hid htt
    clear hbk0 hsum htt hm ht
    have HP := Lib.hid hput
    have HP2 := Lib.hid hput2
    have HT := Lib.hid htk
    have HT2 := Lib.hid htk2
    clear hput hput2 htk htk2 hps hp hqs hq
    go_enter Try.func6, Try.ntmps6
    go_wp2_with fail
    refine (shown_any _).mono ?_
    rintro e w1 ⟨rfl, hb1⟩
    go_wp2_with fail
    refine (HP.out _).mono ?_
    rintro e w2 ⟨rfl, hb2⟩
    go_wp2_with fail
    refine (HP2.out _).mono ?_
    rintro e w3 ⟨rfl, hb3⟩
    go_wp2_with fail
    refine (HT.out _).mono ?_
    rintro e w4 ⟨rfl, hb4⟩
    go_wp2_with fail
    refine (HT2.out _).mono ?_
    rintro e w5 ⟨rfl, hb5⟩
    have hbk := HB.out w5
    go_wp2_with fail
    by_cases hnm : n = m
    · have hq : ((n : Int) == (m : Int)) = true := by rw [beq_iff_eq]; omega
      refine (HTT.out _).mono ?_
      rintro e w6 ⟨he, -, hb6⟩
      obtain rfl := he hnm
      clear he hnm
      go_wp2_with fail
      refine (HS.out _).mono ?_
      rintro e w7 ⟨rfl, hb7⟩
      go_wp2_with fail
      go_ret
      refine ⟨?_, bt (bt ((bt (bt (bt (bt hb1 hb2) hb3) hb4) hb5).alloc (bt (bt (bt (bt hb1 hb2) hb3) hb4) hb5).size _) hb6) hb7⟩
      simp
    · have hq : ((n : Int) == (m : Int)) = false := by rw [beq_eq_false_iff_ne]; omega
      refine (HTT.out _).mono ?_
      rintro e w6 ⟨-, he, hb6⟩
      obtain rfl := he hnm
      clear he hnm
      go_wp2_with fail
      refine (HS.out _).mono ?_
      rintro e w7 ⟨rfl, hb7⟩
      go_wp2_with fail
      go_ret
      refine ⟨?_, bt (bt ((bt (bt (bt (bt hb1 hb2) hb3) hb4) hb5).alloc (bt (bt (bt (bt hb1 hb2) hb3) hb4) hb5).size _) hb6) hb7⟩
      simp
  · go_enter Try.func6, Try.ntmps6
    go_wp2_with (go_at_call 9; refine (shown_any _).mono ?_; rintro e w1 ⟨rfl, hb1⟩)
    go_ret
    exact ⟨rfl, hb1⟩
end Go.Proofs.Ytcncaflegghhfaa
