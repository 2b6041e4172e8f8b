/- The contracts of le.Put and le.Get: a number as bytes, and what bytes say. Conditions: the text's length is that of a text. -/
import Derived.Test.YtolpnbeepiblkaaChecked
import Derived.Test.YtolpnbeepiblkaaWords
import Derived.Test.YtolpnbeepiblkaaLeP
namespace Go.Proofs.Ytolpnbeepiblkaa
open Go.RowKit
/-- how many bytes are put -/
def clamp8 (many : Int) : Nat := (max 0 (min many 8)).toNat
def putTo (n k : Nat) : List UInt8 := LeP.bytes k n ++ List.replicate (8 - k) 0
theorem putTo_length (n k : Nat) (h : k ≤ 8) : (putTo n k).length = 8 := by
  simp [putTo, LeP.bytes_length]; omega
theorem putTo_set (n k : Nat) (h : k < 8) : (putTo n k).set k (UInt8.ofNat (n / 256 ^ k % 256)) = putTo n (k + 1) := by
  have hl := LeP.bytes_length k n
  unfold putTo
  rw [List.set_append_right _ _ (by omega), hl, Nat.sub_self, LeP.bytes_snoc, List.append_assoc]
  congr 1
  have e : 8 - k = (8 - (k + 1)) + 1 := by omega
  rw [e, List.replicate_succ, List.set_cons_zero]
  rfl
theorem byte_num (n k : Nat) : ((UInt8.ofNat (n / 256 ^ k % 256)).toNat : Int) = (n : Int) / 2 ^ (8 * k) % 256 := by
  have e : (256 : Nat) ^ k = 2 ^ (8 * k) := by rw [Nat.pow_mul]
  rw [LeP.toNat_ofNat_mod, e, Int.natCast_emod, Int.natCast_ediv, Int.natCast_pow]
  rfl
set_option maxHeartbeats 400000 in
set_option maxRecDepth 100000 in
theorem put_any (n : Nat) (many : Int) (_hn : n < 18446744073709551616) (w : World) :
    Calls Try.prog 24 #[.int .u64 (n : Int), .int .i64 many] w fun e w' => e = .returned (.string ⟨(LeP.bytes (clamp8 many) n).toArray⟩) ∧ Below w.heap.size w w' := by
  go_enter Try.func24, Try.ntmps24
  go_wp2
  go_loopw [7] (fun i wr => ∃ k : Nat, k ≤ 8 ∧ i = .int .i64 k ∧ Byts wr w.heap.size (putTo n k) ∧ Below w.heap.size w wr) (fun i _ => 8 - (intOf i).toNat)
  case atStart =>
    refine ⟨0, by omega, rfl, (Blk.new w _ _).byts ?_, (Below.refl _ _).alloc (Nat.le_refl _) _⟩
    intro i hi
    have hi' : i < 8 := by have := putTo_length n 0 (by omega); omega
    have hc : i = 0 ∨ i = 1 ∨ i = 2 ∨ i = 3 ∨ i = 4 ∨ i = 5 ∨ i = 6 ∨ i = 7 := by omega
    rcases hc with rfl | rfl | rfl | rfl | rfl | rfl | rfl | rfl <;> rfl
  case round =>
    obtain ⟨k, hk, rfl, hby, hbel⟩ := hrel
    by_cases hlt : k < 8
    · have hcell := hby.cell k (by rw [putTo_length n k hk]; exact hlt)
      have hfro := hby.frozen k (by rw [putTo_length n k hk]; exact hlt)
      go_wp2
      go_roundw
      case rel =>
        have hs := hby.set_ k (by rw [putTo_length n k hk]; exact hlt) (UInt8.ofNat (n / 256 ^ k % 256))
        rw [putTo_set n k hlt, byte_num] at hs
        exact ⟨k + 1, by omega, by go_num, hs, hbel.setCell (Nat.le_refl _) _⟩
      case measure => simp [intOf]; omega
    · obtain rfl : k = 8 := by omega
      have hp : putTo n 8 = LeP.bytes 8 n := by simp [putTo]
      rw [hp] at hby
      have hl8 := LeP.bytes_length 8 n
      have hbk : ∀ m, m ≤ 8 → _ := fun m hm => hby.backk (P := Try.prog) m 8 (by omega) 55 9 5 Try.underlying55 Try.underlying5 Try.underlying9
      have hto : ∀ m, m ≤ 8 → (LeP.bytes 8 n).take m = LeP.bytes m n := fun m hm => LeP.bytes_take 8 m n hm
      clear hl8 hp
      by_cases h0 : many ≤ 0
      · have hc : clamp8 many = 0 := by unfold clamp8; omega
        have hb := hbk 0 (by omega)
        rw [hto 0 (by omega)] at hb
        have HC := Lib.hid hc
        clear hc hbk hto
        go_wp2
        go_ret
        exact ⟨by rw [HC.out]; rfl, hbel⟩
      · by_cases h8 : 8 < many
        · have hc : clamp8 many = 8 := by unfold clamp8; omega
          have hb := hbk 8 (by omega)
          rw [hto 8 (by omega)] at hb
          have HC := Lib.hid hc
          clear hc hbk hto
          go_wp2
          go_ret
          exact ⟨by rw [HC.out]; rfl, hbel⟩
        · obtain ⟨m, rfl⟩ : ∃ m : Nat, many = (m : Int) := ⟨many.toNat, by omega⟩
          have hc : clamp8 (m : Int) = m := by unfold clamp8; omega
          have hb := hbk m (by omega)
          rw [hto m (by omega)] at hb
          have HC := Lib.hid hc
          have hm : m ≤ 8 := by omega
          have hm0 : 0 < m := by omega
          clear hc hbk hto
          go_wp2
          go_ret
          exact ⟨by rw [HC.out]; rfl, hbel⟩
theorem extract_list (s : ByteArray) (m : Nat) : (s.extract 0 m).data.toList = s.data.toList.take m := by
  rw [ByteArray.data_extract]; simp
theorem get_step (l : List UInt8) (k : Nat) (h : k < l.length) (h8 : k < 8) :
    bits .or .u64 ((LeP.num (l.take k) : Nat) : Int) (IntKind.u64.wrap ((l[k].toNat : Int) * 2 ^ (8 * k))) = ((LeP.num (l.take (k + 1)) : Nat) : Int) := by
  rw [IntKind.wrap_u64]
  have hc := l[k].toNat_lt
  have hp : (2 : Nat) ^ (8 * k) ≤ 2 ^ 56 := Nat.pow_le_pow_right (by decide) (by omega)
  have hm : l[k].toNat * 2 ^ (8 * k) < 18446744073709551616 := by
    have : l[k].toNat * 2 ^ (8 * k) ≤ 255 * 2 ^ 56 := Nat.mul_le_mul (by omega) hp
    omega
  have e : ((l[k].toNat : Int) * 2 ^ (8 * k) % 18446744073709551616) = ((l[k].toNat * 2 ^ (8 * k) : Nat) : Int) := by
    have e1 : ((l[k].toNat : Int) * 2 ^ (8 * k)) = ((l[k].toNat * 2 ^ (8 * k) : Nat) : Int) := by rw [Int.natCast_mul, Int.natCast_pow]; rfl
    rw [e1]; omega
  have hn := LeP.num_lt (l.take k)
  have hn2 : LeP.num (l.take k) < 18446744073709551616 := by
    refine Nat.lt_of_lt_of_le hn (Nat.le_trans (Nat.pow_le_pow_right (by decide) (List.length_take_le k l)) ?_)
    exact Nat.le_trans (Nat.pow_le_pow_right (by decide) (by omega : k ≤ 8)) (by decide)
  rw [e, u64_or_nat _ _ hn2 hm, LeP.num_take_or l k h]
set_option maxHeartbeats 400000 in
set_option maxRecDepth 100000 in
theorem get_any (s : ByteArray) (hs : s.size ≤ maxLen) (w : World) :
    Calls Try.prog 38 #[.string s] w fun e w' => e = .returned (.int .u64 ((LeP.get s.data.toList : Nat) : Int)) ∧ Below w.heap.size w w' := by
  unfold maxLen at hs
  have hcv := fun (s : ByteArray) (w : World) => run_bytes_of_string (P := Try.prog) w 9 55 5 s Try.underlying9 Try.underlying55 Try.underlying5
  have hl : s.data.toList.length = s.size := Array.length_toList
  obtain ⟨l, hlt⟩ : ∃ l, l = s.data.toList.take 8 := ⟨_, rfl⟩
  have hg : LeP.get s.data.toList = LeP.num l := by rw [hlt]; rfl
  have HG := Lib.hid hg
  by_cases h8 : s.size ≤ 8
  · have ht : s.data.toList = l := by rw [hlt, List.take_of_length_le (by omega)]
    have hm : l.length = s.size := by rw [← ht]; exact hl
    have HT := Lib.hid ht
    have HM := Lib.hid hm
    clear hl hlt hg ht hm
    go_enter Try.func38, Try.ntmps38
    go_wp2_with fail
    go_loopw [3, 13] (fun n i wr => ∃ k : Nat, k ≤ s.size ∧ i = .int .i64 k ∧ n = .int .u64 ((LeP.num (l.take k) : Nat) : Int) ∧ Byts wr w.heap.size l ∧ Below w.heap.size w wr) (fun _ i _ => s.size - (intOf i).toNat)
    case atStart =>
      have hby := byts_new w s (grownCap w s.size 0 5) 5
      rw [HT.out] at hby
      exact ⟨0, by omega, rfl, rfl, hby, ((Below.refl _ _).alloc (Nat.le_refl _) _).drew⟩
    case round =>
      obtain ⟨k, hk, rfl, rfl, hby, hbel⟩ := hrel
      by_cases hlt : k < s.size
      · have hkl : k < l.length := by have := HM.out; omega
        have hcell := hby.cell k hkl
        have hstep := get_step l k hkl (by omega)
        obtain ⟨c, hc⟩ : ∃ c, c = l[k] := ⟨_, rfl⟩
        rw [← hc] at hcell hstep
        have HS := Lib.hid hstep
        have hcl : (c.toNat : Int) < 256 := by have := c.toNat_lt; omega
        clear hstep hc
        go_wp2
        go_roundw
        case rel =>
          refine ⟨k + 1, by omega, by go_num, ?_, hby, hbel⟩
          rw [HS.out]
        case measure => simp [intOf]; omega
      · obtain rfl : k = s.size := by omega
        go_wp2
        go_ret
        refine ⟨ret_int ?_, hbel⟩
        rw [List.take_of_length_le (by have := HM.out; omega), HG.out]
  · have ht : (s.extract 0 8).data.toList = l := by rw [hlt]; exact extract_list s 8
    have hm : l.length = min 8 s.size := by rw [hlt, List.length_take]; omega
    have HT := Lib.hid ht
    have HM := Lib.hid hm
    clear hl hlt hg ht hm
    go_enter Try.func38, Try.ntmps38
    go_wp2_with fail
    go_loopw [3, 13] (fun n i wr => ∃ k : Nat, k ≤ min 8 s.size ∧ i = .int .i64 k ∧ n = .int .u64 ((LeP.num (l.take k) : Nat) : Int) ∧ Byts wr w.heap.size l ∧ Below w.heap.size w wr) (fun _ i _ => min 8 s.size - (intOf i).toNat)
    case atStart =>
      have hby := byts_new w (s.extract 0 8) (grownCap w (min 8 s.size) 0 5) 5
      rw [HT.out] at hby
      exact ⟨0, by omega, rfl, rfl, hby, ((Below.refl _ _).alloc (Nat.le_refl _) _).drew⟩
    case round =>
      obtain ⟨k, hk, rfl, rfl, hby, hbel⟩ := hrel
      by_cases hlt : k < min 8 s.size
      · have hkl : k < l.length := by have := HM.out; omega
        have hcell := hby.cell k hkl
        have hstep := get_step l k hkl (by omega)
        obtain ⟨c, hc⟩ : ∃ c, c = l[k] := ⟨_, rfl⟩
        rw [← hc] at hcell hstep
        have HS := Lib.hid hstep
        have hcl : (c.toNat : Int) < 256 := by have := c.toNat_lt; omega
        clear hstep hc
        go_wp2
        go_roundw
        case rel =>
          refine ⟨k + 1, by omega, by go_num, ?_, hby, hbel⟩
          rw [HS.out]
        case measure => simp [intOf]; omega
      · obtain rfl : k = min 8 s.size := by omega
        go_wp2
        go_ret
        refine ⟨ret_int ?_, hbel⟩
        rw [List.take_of_length_le (by have := HM.out; omega), HG.out]
end Go.Proofs.Ytolpnbeepiblkaa
