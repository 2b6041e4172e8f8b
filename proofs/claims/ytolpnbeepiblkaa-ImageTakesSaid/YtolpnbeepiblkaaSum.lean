/- The contracts of seal.made (the table of sixteen words) and seal.Sum (the check sum CRC-32 of a text). Conditions: the text's length is that of a text. -/
import Derived.Test.YtolpnbeepiblkaaChecked
import Derived.Test.YtolpnbeepiblkaaWords
import Derived.Test.YtolpnbeepiblkaaCrc
namespace Go.Proofs.Ytolpnbeepiblkaa
open Go.RowKit
/-- the table as cells, the first k of its words laid -/
def tabTo (k : Nat) : Array Value := ((List.range 16).map fun i => if i < k then Value.int .u32 ((Crc.tab i).toNat : Int) else Value.int .u32 0).toArray
theorem tabTo_get (k i : Nat) (h : i < 16) : (tabTo k)[i]? = some (if i < k then Value.int .u32 ((Crc.tab i).toNat : Int) else Value.int .u32 0) := by
  unfold tabTo; simp [h]
theorem tabTo_cell (k i : Nat) (h : i < 16) : ∃ n : Int, (tabTo k)[i]? = some (Value.int .u32 n) := by
  rw [tabTo_get k i h]; split <;> exact ⟨_, rfl⟩
theorem tabTo_set (k : Nat) (h : k < 16) : (tabTo k).setIfInBounds k (Value.int .u32 ((Crc.tab k).toNat : Int)) = tabTo (k + 1) := by
  apply Array.ext_getElem?
  intro i
  rw [Array.getElem?_setIfInBounds]
  by_cases hi : i < 16
  · rw [tabTo_get k i hi, tabTo_get (k + 1) i hi]
    by_cases e : k = i
    · subst e; simp [tabTo, h]
    · rw [if_neg e]
      have : i < k ↔ i < k + 1 := by omega
      simp [this]
  · have e : k ≠ i := by omega
    rw [if_neg e]
    simp [tabTo, hi]
theorem tab_info : (Try.prog.info? 91).map (·.size) = some (tabTo 16).size := by kernel_rfl
theorem tab_sizes : (tabTo 0).size = (tabTo 16).size := rfl
theorem tab_one : (tabTo 16).all (·.oneCell') = true := by kernel_rfl
theorem u32_lt (r : Crc.R) : r.toNat < 4294967296 := r.isLt
theorem made_step (r : Crc.R) : bits .xor .u32 ((r.toNat : Int) / 2) (bits .and .u32 3988292384 (-bits .and .u32 (r.toNat : Int) 1 % 4294967296)) = ((Crc.M r).toNat : Int) := by
  have hr := u32_lt r
  have h1 : bits .and .u32 (r.toNat : Int) 1 = ((r.toNat % 2 : Nat) : Int) := by
    have := u32_and_nat r.toNat 1 hr (by omega)
    rw [Nat.and_one_is_mod] at this
    exact this
  have hb : r.getLsbD 0 = decide (r.toNat % 2 = 1) := by
    rw [BitVec.getLsbD, Nat.testBit_zero]
  have hd : ((r.toNat : Int) / 2) = ((r.toNat / 2 : Nat) : Int) := by omega
  rw [h1, hd]
  unfold Crc.M
  rw [hb]
  rcases Nat.mod_two_eq_zero_or_one r.toNat with h | h
  · rw [h]
    have h2 : bits .and .u32 3988292384 (-((0 : Nat) : Int) % 4294967296) = ((0 : Nat) : Int) := u32_and_nat 3988292384 0 (by omega) (by omega)
    rw [h2, u32_xor_nat _ 0 (by omega) (by omega)]
    simp [Nat.shiftRight_eq_div_pow]
  · rw [h]
    have h2 : bits .and .u32 3988292384 (-((1 : Nat) : Int) % 4294967296) = ((3988292384 : Nat) : Int) := u32_and_nat 3988292384 4294967295 (by omega) (by omega)
    rw [h2, u32_xor_nat _ 3988292384 (by omega) (by omega), BitVec.toNat_xor, BitVec.toNat_ushiftRight, Nat.shiftRight_eq_div_pow]
    rfl
set_option maxHeartbeats 400000 in
theorem made_any (w : World) : Calls Try.prog 46 #[] w fun e w' => e = .returned (.agg (tabTo 16)) ∧ Below w.heap.size w w' := by
  go_enter Try.func46, Try.ntmps46
  go_wp2
  go_loopw [4] (fun i wr => ∃ k : Nat, k ≤ 16 ∧ i = .int .i64 k ∧ Blk wr w.heap.size 91 (tabTo 0) ∧ Blk wr (w.heap.size + 1) 91 (tabTo k) ∧ Below w.heap.size w wr) (fun i _ => 16 - (intOf i).toNat)
  case atStart =>
    exact ⟨0, by omega, rfl, (Blk.new w _ _).alloc _, blk_new1 w _ _ _, ((Below.refl _ _).alloc (Nat.le_refl _) _).alloc (by simp) _⟩
  case round =>
    obtain ⟨k, hk, rfl, hb0, hb1, hbel⟩ := hrel
    by_cases hlt : k < 16
    · go_wp2
      go_loop [3, 9] (fun n i => ∃ j : Nat, j ≤ 4 ∧ i = .int .i64 j ∧ n = .int .u32 ((Crc.Mn j (BitVec.ofNat 32 k)).toNat : Int)) (fun _ i => 4 - (intOf i).toNat)
      case atStart => exact ⟨0, by omega, rfl, by rw [show (Crc.Mn 0 (BitVec.ofNat 32 k)).toNat = k from by show (BitVec.ofNat 32 k).toNat = k; rw [BitVec.toNat_ofNat]; omega]⟩
      case round =>
        obtain ⟨j, hj, rfl, rfl⟩ := hrel
        by_cases hjt : j < 4
        · go_wp2
          go_round
          case rel =>
            refine ⟨j + 1, by omega, by go_num, ?_⟩
            rw [made_step, ← Crc.Mn_succ]
          case measure => simp [intOf]; omega
        · obtain rfl : j = 4 := by omega
          have hc := hb1.cell k
          rw [tabTo_get k k hlt] at hc
          have hf := hb1.frozen k
          go_wp2
          go_roundw
          case rel =>
            refine ⟨k + 1, by omega, by go_num, hb0.far (by simp) _, ?_, hbel.setCell (by simp) _⟩
            have := hb1.set_ k (Value.int .u32 ((Crc.tab k).toNat : Int))
            rw [tabTo_set k hlt] at this
            exact this
          case measure => simp [intOf]; omega
    · obtain rfl : k = 16 := by omega
      go_wp2_with (first
        | (refine wpList_load_row rfl 91 (.tmp 1) rfl (w.heap.size + 1) rfl 91 (tabTo 16) (0, 0) _ hb1 Try.underlying91 rfl tab_info ?_)
        | (refine wpList_store_row rfl 91 _ _ rfl w.heap.size (tabTo 16) rfl rfl 91 (tabTo 0) hb0 tab_info tab_sizes tab_one ?_))
      exact bodyPost_ret (v := .agg (tabTo 16)) (results_cell_row rfl _ _ w.heap.size 91 (tabTo 16) (0, 0) _ rfl (hb0.setRow _) Try.underlying91 rfl (by kernel_rfl)) rfl ⟨rfl, below_setRow' hbel (Nat.le_refl _) _⟩
theorem u32_not (x : Crc.R) : bits .xor .u32 IntKind.u32.max (x.toNat : Int) = ((Crc.ones ^^^ x).toNat : Int) := by
  have h : IntKind.u32.max = ((4294967295 : Nat) : Int) := rfl
  rw [h, u32_xor_nat _ _ (by omega) (u32_lt x), BitVec.toNat_xor]
  rfl
/-- what the two half bytes do, as the walk writes it -/
theorem sum_step (r : Crc.R) (c : UInt8) : ∃ a b z n1 n2 t1 t2 : Nat, n1 < 16 ∧ n2 < 16 ∧ (Crc.tab n1).toNat = t1 ∧ (Crc.tab n2).toNat = t2 ∧ (Crc.byteStep r c).toNat = z ∧
    bits .xor .u32 (r.toNat : Int) (c.toNat : Int) = (a : Int) ∧ bits .and .u32 (a : Int) 15 = (n1 : Int) ∧ bits .xor .u32 ((a : Int) / (16 : Int)) (t1 : Int) = (b : Int) ∧
    bits .and .u32 (b : Int) 15 = (n2 : Int) ∧ bits .xor .u32 ((b : Int) / (16 : Int)) (t2 : Int) = (z : Int) := by
  have hh : ∀ x : Crc.R, bits .and .u32 (x.toNat : Int) 15 = (((x &&& 15#32).toNat : Nat) : Int) ∧ (x &&& 15#32).toNat < 16 ∧
      bits .xor .u32 ((x.toNat : Int) / (16 : Int)) ((Crc.tab (x &&& 15#32).toNat).toNat : Int) = ((Crc.Mn 4 x).toNat : Int) := by
    intro x
    refine ⟨u32_and_nat x.toNat 15 (u32_lt x) (by omega), ?_, ?_⟩
    · rw [BitVec.toNat_and]; exact Nat.and_lt_two_pow _ (by decide : (15#32).toNat < 2 ^ 4)
    · have hd : (x.toNat : Int) / (16 : Int) = ((x >>> 4).toNat : Int) := by
        have e : (x >>> 4).toNat = x.toNat / 16 := by rw [BitVec.toNat_ushiftRight, Nat.shiftRight_eq_div_pow]
        rw [e]; rfl
      rw [hd, u32_xor_nat _ _ (u32_lt _) (u32_lt _), ← BitVec.toNat_xor, Crc.nibble]
  have h1 := hh (r ^^^ BitVec.ofNat 32 c.toNat)
  have h2 := hh (Crc.Mn 4 (r ^^^ BitVec.ofNat 32 c.toNat))
  refine ⟨(r ^^^ BitVec.ofNat 32 c.toNat).toNat, (Crc.Mn 4 (r ^^^ BitVec.ofNat 32 c.toNat)).toNat, _, _, _, _, _, h1.2.1, h2.2.1, rfl, rfl, rfl, ?_, h1.1, h1.2.2, h2.1, h2.2.2⟩
  have hc := c.toNat_lt
  rw [u32_xor_nat _ _ (u32_lt _) (by omega), BitVec.toNat_xor, BitVec.toNat_ofNat, Nat.mod_eq_of_lt (by omega)]
set_option maxHeartbeats 400000 in
theorem sum_any (s : ByteArray) (hs : s.size ≤ maxLen) (w : World) :
    Calls Try.prog 39 #[.string s] w fun e w' => e = .returned (.int .u32 ((Crc.crc s.data.toList).toNat : Int)) ∧ Below w.heap.size w w' := by
  unfold maxLen at hs
  have hcv := fun (w : World) => run_bytes_of_string (P := Try.prog) w 9 55 5 s Try.underlying9 Try.underlying55 Try.underlying5
  go_enter Try.func39, Try.ntmps39
  go_wp2_with (first
    | (go_at_call 46; refine (made_any _).mono ?_; rintro e w1 ⟨rfl, hb1⟩)
    | (refine wpList_store_row rfl 91 _ _ rfl w1.heap.size (tabTo 16) rfl rfl 91 (tabTo 0) (heap_alloc_new w1 _) tab_info tab_sizes tab_one ?_))
  go_loopw [4, 11] (fun n i wr => ∃ k : Nat, k ≤ s.size ∧ i = .int .i64 k ∧ n = .int .u32 ((Crc.reg Crc.ones (s.data.toList.take k)).toNat : Int) ∧ Byts wr (w1.heap.size + 1) s.data.toList ∧
      Blk wr w1.heap.size 91 (tabTo 16) ∧ Below w.heap.size w wr) (fun _ i _ => s.size - (intOf i).toNat)
  case atStart =>
    have h0 : Blk ((w1.alloc (.cells (tabTo 0) 91)).setRow w1.heap.size (tabTo 16)) w1.heap.size 91 (tabTo 16) := (Blk.new w1 _ _).setRow _
    have hb2 : Below w.heap.size w ((w1.alloc (.cells (tabTo 0) 91)).setRow w1.heap.size (tabTo 16)) := below_setRow' (hb1.alloc hb1.size _) hb1.size _
    have hsz : ((w1.alloc (.cells (tabTo 0) 91)).setRow w1.heap.size (tabTo 16)).heap.size = w1.heap.size + 1 := by simp
    have hby := byts_new ((w1.alloc (.cells (tabTo 0) 91)).setRow w1.heap.size (tabTo 16)) s (grownCap ((w1.alloc (.cells (tabTo 0) 91)).setRow w1.heap.size (tabTo 16)) s.size 0 5) 5
    rw [hsz] at hby
    exact ⟨0, by omega, rfl, rfl, hby, (h0.alloc _).drew, (hb2.alloc hb2.size _).drew⟩
  case round =>
    obtain ⟨k, hk, rfl, rfl, hby, htb, hbel⟩ := hrel
    have hlen : s.data.toList.length = s.size := Array.length_toList
    by_cases hlt : k < s.size
    · have hstep : Crc.reg Crc.ones (s.data.toList.take (k + 1)) = Crc.byteStep (Crc.reg Crc.ones (s.data.toList.take k)) (s.data.toList[k]'(by omega)) := by
        rw [List.take_succ_eq_append_getElem (by omega), Crc.reg_append]; rfl
      have hcc := hby.cell k (by omega)
      obtain ⟨c, hc⟩ : ∃ c, c = s.data.toList[k]'(by omega) := ⟨_, rfl⟩
      rw [← hc] at hcc hstep
      obtain ⟨r, hr⟩ : ∃ r, r = Crc.reg Crc.ones (s.data.toList.take k) := ⟨_, rfl⟩
      rw [← hr] at hstep ⊢
      have H := sum_step r c
      have hcl : (c.toNat : Int) < 256 := by have := c.toNat_lt; omega
      obtain ⟨a, b, z, n1, n2, t1, t2, i1, i2, ht1, ht2, hz, hx, h1, h2, h3, h4⟩ := H
      have e1 := htb.cell n1
      have e2 := htb.cell n2
      rw [tabTo_get 16 n1 i1, if_pos i1, ht1] at e1
      rw [tabTo_get 16 n2 i2, if_pos i2, ht2] at e2
      have HS : Hid ((Crc.reg Crc.ones (s.data.toList.take (k + 1))).toNat = z) := by rw [hstep]; exact hz
      clear ht1 ht2 hz hstep hc hr hlen
      go_wp2
      go_roundw
      case rel => exact ⟨k + 1, by omega, by go_num, by rw [HS.out], hby, htb, hbel⟩
      case measure => simp [intOf]; omega
    · obtain rfl : k = s.size := by omega
      go_wp2
      go_ret
      refine ⟨ret_int ?_, hbel⟩
      rw [List.take_of_length_le (by omega), u32_not]
      rfl
end Go.Proofs.Ytolpnbeepiblkaa
