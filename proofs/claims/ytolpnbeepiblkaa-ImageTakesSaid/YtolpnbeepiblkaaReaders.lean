/- The contracts of rootcellarref2.Get and of the readers of both. Conditions: lengths are those of texts; a reader lies in a block of its own. -/
import Derived.Test.YtolpnbeepiblkaaRefLe
namespace Go.Proofs.Ytolpnbeepiblkaa
open Go.RowKit
set_option linter.unusedVariables false
set_option maxRecDepth 100000 in
theorem rget_any (s : ByteArray) (hs : s.size ≤ maxLen) (w : World) :
    Calls Try.prog 45 #[.string s] w fun e w' => e = .returned (.int .u64 ((LeP.get s.data.toList : Nat) : Int)) ∧ w = w' := by
  unfold maxLen at hs
  have hl : s.data.toList.length = s.size := Array.length_toList
  obtain ⟨l, hlt⟩ : ∃ l, l = s.data.toList.take 8 := ⟨_, rfl⟩
  have hll : l.length = min 8 s.size := by rw [hlt, List.length_take, hl]
  have hg : LeP.get s.data.toList = LeP.num l := by rw [hlt]; rfl
  have hidx : ∀ i (h : i < s.size), i < 8 → ∀ h' : i < l.length, l[i] = s[i] := by
    intro i h h8 h'
    subst hlt
    rw [List.getElem_take]; rfl
  have HG := Lib.hid hg
  have HI := Lib.hid hidx
  have HL := Lib.hid hll
  clear hl hlt hg hidx hll
  by_cases h8 : s.size ≤ 8
  · go_enter Try.func45, Try.ntmps45
    go_wp2_with fail
    go_loop [3, 4] (fun n i => ∃ j : Nat, j ≤ s.size ∧ i = .int .i64 ((j : Int) - 1) ∧ n = .int .u64 ((LeP.num (l.drop j) : Nat) : Int)) (fun _ i => (intOf i + 1).toNat)
    case atStart => exact ⟨s.size, by omega, rfl, by rw [List.drop_of_length_le (by rw [HL.out]; omega)]; rfl⟩
    case round =>
      obtain ⟨j, hj, rfl, rfl⟩ := hrel
      by_cases h0 : 0 < j
      · obtain ⟨i, rfl⟩ : ∃ i, j = i + 1 := ⟨j - 1, by omega⟩
        have hil : i < l.length := by rw [HL.out]; omega
        have his : i < s.size := by omega
        have hstep := LeP.num_drop l i hil
        rw [HI.out i his (by omega) hil] at hstep
        obtain ⟨x, hx⟩ : ∃ x, x = LeP.num (l.drop (i + 1)) := ⟨_, rfl⟩
        have hlt : LeP.num (l.drop i) < 18446744073709551616 := by
          have := LeP.num_lt (l.drop i)
          refine Nat.lt_of_lt_of_le this (Nat.le_trans (Nat.pow_le_pow_right (by decide) (?_ : _ ≤ 8)) (by decide))
          rw [List.length_drop, HL.out]; omega
        rw [← hx] at hstep ⊢
        rw [← hstep] at hlt
        have HS := Lib.hid hstep
        clear hstep hx
        go_wp2
        go_round
        case rel => exact ⟨i, by omega, by go_num, by rw [← HS.out]; simp⟩
        case measure => simp [intOf]
      · obtain rfl : j = 0 := by omega
        go_wp2
        go_ret
        exact ⟨ret_int (by rw [HG.out]), rfl⟩
  · go_enter Try.func45, Try.ntmps45
    go_wp2_with fail
    go_loop [3, 4] (fun n i => ∃ j : Nat, j ≤ 8 ∧ i = .int .i64 ((j : Int) - 1) ∧ n = .int .u64 ((LeP.num (l.drop j) : Nat) : Int)) (fun _ i => (intOf i + 1).toNat)
    case atStart => exact ⟨8, by omega, rfl, by rw [List.drop_of_length_le (by rw [HL.out]; omega)]; rfl⟩
    case round =>
      obtain ⟨j, hj, rfl, rfl⟩ := hrel
      by_cases h0 : 0 < j
      · obtain ⟨i, rfl⟩ : ∃ i, j = i + 1 := ⟨j - 1, by omega⟩
        have hil : i < l.length := by rw [HL.out]; omega
        have his : i < s.size := by omega
        have hstep := LeP.num_drop l i hil
        rw [HI.out i his (by omega) hil] at hstep
        obtain ⟨x, hx⟩ : ∃ x, x = LeP.num (l.drop (i + 1)) := ⟨_, rfl⟩
        have hlt : LeP.num (l.drop i) < 18446744073709551616 := by
          have := LeP.num_lt (l.drop i)
          refine Nat.lt_of_lt_of_le this (Nat.le_trans (Nat.pow_le_pow_right (by decide) (?_ : _ ≤ 8)) (by decide))
          rw [List.length_drop, HL.out]; omega
        rw [← hx] at hstep ⊢
        rw [← hstep] at hlt
        have HS := Lib.hid hstep
        clear hstep hx
        go_wp2
        go_round
        case rel => exact ⟨i, by omega, by go_num, by rw [← HS.out]; simp⟩
        case measure => simp [intOf]
      · obtain rfl : j = 0 := by omega
        go_wp2
        go_ret
        exact ⟨ret_int (by rw [HG.out]), rfl⟩
/-- what is taken off a text, what is left, and whether the reader is bad -/
def rdT (s : ByteArray) (bad : Bool) (n : Int) : ByteArray × ByteArray × Bool :=
  if bad = true ∨ n < 0 ∨ (s.size : Int) < n then (⟨#[]⟩, s, true) else (s.extract 0 n.toNat, s.extract n.toNat s.size, false)
def rdN (s : ByteArray) (bad : Bool) (many : Int) : Nat × ByteArray × Bool :=
  if 8 < many then (0, s, true) else (LeP.get (rdT s bad many).1.data.toList, (rdT s bad many).2.1, (rdT s bad many).2.2)
def rdO (s : ByteArray) (bad : Bool) : Bool := s.toList.isEmpty && !bad
theorem rdT_bad (s : ByteArray) (bad : Bool) (n : Int) (h : bad = true ∨ n < 0 ∨ (s.size : Int) < n) : rdT s bad n = (⟨#[]⟩, s, true) := by unfold rdT; rw [if_pos h]
theorem rdT_good (s : ByteArray) (n : Nat) (h : n ≤ s.size) : rdT s false (n : Int) = (s.extract 0 n, s.extract n s.size, false) := by
  unfold rdT; rw [if_neg (by simp; omega), Int.toNat_natCast]
theorem rdT_size (s : ByteArray) (bad : Bool) (n : Int) : (rdT s bad n).1.size ≤ s.size ∧ (rdT s bad n).2.1.size ≤ s.size := by
  unfold rdT
  split
  · exact ⟨Nat.zero_le _, Nat.le_refl _⟩
  · simp only [ByteArray.size_extract]; omega
set_option maxRecDepth 100000 in
set_option maxHeartbeats 800000 in
theorem text_any (g : Nat) (s : ByteArray) (bad : Bool) (n : Int) (hs : s.size ≤ maxLen) (w : World) (hr : Blk w g 73 #[.string s, .bool bad]) :
    Calls Try.prog 32 #[.pointer (some ⟨g, 0, none⟩), .int .i64 n] w fun e w' => e = .returned (.string (rdT s bad n).1) ∧ Blk w' g 73 #[.string (rdT s bad n).2.1, .bool (rdT s bad n).2.2] ∧ w.grownBy w' (some g) := by
  unfold maxLen at hs
  have c0 := hr.cell 0
  have c1 := hr.cell 1
  have f0 := hr.frozen 0
  have f1 := hr.frozen 1
  rw [show (#[Value.string s, Value.bool bad] : Array Value)[0]? = some (.string s) from rfl] at c0
  rw [show (#[Value.string s, Value.bool bad] : Array Value)[1]? = some (.bool bad) from rfl] at c1
  by_cases hb : bad = true
  · subst hb
    rw [rdT_bad s true n (Or.inl rfl)]
    go_enter Try.func32, Try.ntmps32
    go_wp2_with fail
    go_ret
    exact ⟨rfl, by simpa using hr.set_ 1 (.bool true), gby_setCell (gby_refl _ _) _ _⟩
  · obtain rfl : bad = false := by simpa using hb
    clear hb
    by_cases hn : n < 0
    · rw [rdT_bad s false n (Or.inr (Or.inl hn))]
      go_enter Try.func32, Try.ntmps32
      go_wp2_with fail
      go_ret
      exact ⟨rfl, by simpa using hr.set_ 1 (.bool true), gby_setCell (gby_refl _ _) _ _⟩
    · by_cases hl : (s.size : Int) < n
      · rw [rdT_bad s false n (Or.inr (Or.inr hl))]
        go_enter Try.func32, Try.ntmps32
        go_wp2_with fail
        go_ret
        exact ⟨rfl, by simpa using hr.set_ 1 (.bool true), gby_setCell (gby_refl _ _) _ _⟩
      · obtain ⟨m, rfl⟩ : ∃ m : Nat, n = (m : Int) := ⟨n.toNat, by omega⟩
        have hm : m ≤ s.size := by omega
        rw [rdT_good s m hm]
        clear hn hl
        go_enter Try.func32, Try.ntmps32
        go_wp2_with fail
        go_ret
        exact ⟨rfl, by rw [show decide ((m : Int) < 0) = false from decide_eq_false (by omega)]; simpa using (hr.set_ 1 (.bool false)).set_ 0 (.string (s.extract m s.size)), gby_setCell (gby_setCell (gby_refl _ _) _ _) _ _⟩
set_option maxRecDepth 100000 in
set_option maxHeartbeats 800000 in
theorem over_any (g : Nat) (s : ByteArray) (bad : Bool) (w : World) (hr : Blk w g 73 #[.string s, .bool bad]) :
    Calls Try.prog 34 #[.pointer (some ⟨g, 0, none⟩)] w fun e w' => e = .returned (.bool (rdO s bad)) ∧ w = w' := by
  have c0 := hr.cell 0
  have c1 := hr.cell 1
  rw [show (#[Value.string s, Value.bool bad] : Array Value)[0]? = some (.string s) from rfl] at c0
  rw [show (#[Value.string s, Value.bool bad] : Array Value)[1]? = some (.bool bad) from rfl] at c1
  obtain ⟨q, hq⟩ : ∃ q, s.toList.isEmpty = q := ⟨_, rfl⟩
  unfold rdO
  rw [hq]
  cases q
  · go_enter Try.func34, Try.ntmps34
    go_wp2_with fail
    go_ret
    exact ⟨rfl, rfl⟩
  · go_enter Try.func34, Try.ntmps34
    go_wp2_with fail
    go_ret
    exact ⟨rfl, rfl⟩
set_option maxRecDepth 100000 in
set_option maxHeartbeats 800000 in
theorem rtext_any (g : Nat) (s : ByteArray) (bad : Bool) (n : Int) (hs : s.size ≤ maxLen) (w : World) (hr : Blk w g 77 #[.string s, .bool bad]) :
    Calls Try.prog 36 #[.pointer (some ⟨g, 0, none⟩), .int .i64 n] w fun e w' => e = .returned (.string (rdT s bad n).1) ∧ Blk w' g 77 #[.string (rdT s bad n).2.1, .bool (rdT s bad n).2.2] ∧ w.grownBy w' (some g) := by
  unfold maxLen at hs
  have c0 := hr.cell 0
  have c1 := hr.cell 1
  have f0 := hr.frozen 0
  have f1 := hr.frozen 1
  rw [show (#[Value.string s, Value.bool bad] : Array Value)[0]? = some (.string s) from rfl] at c0
  rw [show (#[Value.string s, Value.bool bad] : Array Value)[1]? = some (.bool bad) from rfl] at c1
  by_cases hb : bad = true
  · subst hb
    rw [rdT_bad s true n (Or.inl rfl)]
    go_enter Try.func36, Try.ntmps36
    go_wp2_with fail
    go_ret
    exact ⟨rfl, by simpa using hr.set_ 1 (.bool true), gby_setCell (gby_refl _ _) _ _⟩
  · obtain rfl : bad = false := by simpa using hb
    clear hb
    by_cases hn : n < 0
    · rw [rdT_bad s false n (Or.inr (Or.inl hn))]
      go_enter Try.func36, Try.ntmps36
      go_wp2_with fail
      go_ret
      exact ⟨rfl, by simpa using hr.set_ 1 (.bool true), gby_setCell (gby_refl _ _) _ _⟩
    · by_cases hl : (s.size : Int) < n
      · rw [rdT_bad s false n (Or.inr (Or.inr hl))]
        go_enter Try.func36, Try.ntmps36
        go_wp2_with fail
        go_ret
        exact ⟨rfl, by simpa using hr.set_ 1 (.bool true), gby_setCell (gby_refl _ _) _ _⟩
      · obtain ⟨m, rfl⟩ : ∃ m : Nat, n = (m : Int) := ⟨n.toNat, by omega⟩
        have hm : m ≤ s.size := by omega
        rw [rdT_good s m hm]
        clear hn hl
        go_enter Try.func36, Try.ntmps36
        go_wp2_with fail
        go_ret
        exact ⟨rfl, by simpa using hr.set_ 0 (.string (s.extract m s.size)), gby_setCell (gby_refl _ _) _ _⟩
set_option maxRecDepth 100000 in
set_option maxHeartbeats 800000 in
theorem number_any (g : Nat) (s : ByteArray) (bad : Bool) (n : Int) (hs : s.size ≤ maxLen) (w : World) (hr : Blk w g 73 #[.string s, .bool bad]) :
    Calls Try.prog 33 #[.pointer (some ⟨g, 0, none⟩), .int .i64 n] w fun e w' => e = .returned (.int .u64 (((rdN s bad n).1 : Nat) : Int)) ∧ Blk w' g 73 #[.string (rdN s bad n).2.1, .bool (rdN s bad n).2.2] ∧ w.grownBy w' (some g) := by
  by_cases h8 : 8 < n
  · have hN : rdN s bad n = (0, s, true) := by unfold rdN; rw [if_pos h8]
    have ht := text_any g s bad (-1) hs w hr
    rw [rdT_bad s bad (-1) (Or.inr (Or.inl (by omega)))] at ht
    rw [hN]
    have HT := Lib.hid ht
    have HR := Lib.hid hr
    clear ht hN hr
    go_enter Try.func33, Try.ntmps33
    go_wp2_with fail
    refine HT.out.mono ?_
    rintro e w1 ⟨rfl, hb1, hg1⟩
    have HB := Lib.hid hb1
    clear hb1
    go_wp2_with fail
    refine (get_any _ (by show 0 ≤ maxLen; unfold maxLen; omega) _).mono ?_
    rintro e w2 ⟨rfl, hb2⟩
    go_wp2_with fail
    go_ret
    exact ⟨rfl, HB.out.below hb2 HB.out.lt, gby_trans hg1 (gby_below hb2 _)⟩
  · have hN : rdN s bad n = (LeP.get (rdT s bad n).1.data.toList, (rdT s bad n).2.1, (rdT s bad n).2.2) := by unfold rdN; rw [if_neg h8]
    have ht := text_any g s bad n hs w hr
    rw [hN]
    have hz := (rdT_size s bad n).1
    obtain ⟨x, hx⟩ : ∃ x, x = rdT s bad n := ⟨_, rfl⟩
    rw [← hx] at ht hz ⊢
    have HT := Lib.hid ht
    have HR := Lib.hid hr
    have hzz : x.1.size ≤ maxLen := Nat.le_trans hz hs
    clear ht hN hr hx
    go_enter Try.func33, Try.ntmps33
    go_wp2_with fail
    refine HT.out.mono ?_
    rintro e w1 ⟨rfl, hb1, hg1⟩
    have HB := Lib.hid hb1
    clear hb1
    go_wp2_with fail
    refine (get_any _ hzz _).mono ?_
    rintro e w2 ⟨rfl, hb2⟩
    go_wp2_with fail
    go_ret
    exact ⟨rfl, HB.out.below hb2 HB.out.lt, gby_trans hg1 (gby_below hb2 _)⟩
set_option maxRecDepth 100000 in
set_option maxHeartbeats 800000 in
theorem rnumber_any (g : Nat) (s : ByteArray) (bad : Bool) (n : Int) (hs : s.size ≤ maxLen) (w : World) (hr : Blk w g 77 #[.string s, .bool bad]) :
    Calls Try.prog 37 #[.pointer (some ⟨g, 0, none⟩), .int .i64 n] w fun e w' => e = .returned (.int .u64 (((rdN s bad n).1 : Nat) : Int)) ∧ Blk w' g 77 #[.string (rdN s bad n).2.1, .bool (rdN s bad n).2.2] ∧ w.grownBy w' (some g) := by
  by_cases h8 : 8 < n
  · have hN : rdN s bad n = (0, s, true) := by unfold rdN; rw [if_pos h8]
    have c1 := hr.cell 1
    have f1 := hr.frozen 1
    rw [show (#[Value.string s, Value.bool bad] : Array Value)[1]? = some (.bool bad) from rfl] at c1
    rw [hN]
    have HR := Lib.hid hr
    clear hN hr
    go_enter Try.func37, Try.ntmps37
    go_wp2_with fail
    go_ret
    exact ⟨rfl, by simpa using HR.out.set_ 1 (.bool true), gby_setCell (gby_refl _ _) _ _⟩
  · have hN : rdN s bad n = (LeP.get (rdT s bad n).1.data.toList, (rdT s bad n).2.1, (rdT s bad n).2.2) := by unfold rdN; rw [if_neg h8]
    have ht := rtext_any g s bad n hs w hr
    rw [hN]
    have hz := (rdT_size s bad n).1
    obtain ⟨x, hx⟩ : ∃ x, x = rdT s bad n := ⟨_, rfl⟩
    rw [← hx] at ht hz ⊢
    have HT := Lib.hid ht
    have HR := Lib.hid hr
    have hzz : x.1.size ≤ maxLen := Nat.le_trans hz hs
    clear ht hN hr hx
    go_enter Try.func37, Try.ntmps37
    go_wp2_with fail
    refine HT.out.mono ?_
    rintro e w1 ⟨rfl, hb1, hg1⟩
    have HB := Lib.hid hb1
    clear hb1
    go_wp2_with fail
    refine (rget_any _ hzz _).mono ?_
    rintro e w2 ⟨rfl, rfl⟩
    go_wp2_with fail
    go_ret
    exact ⟨rfl, HB.out, hg1⟩
end Go.Proofs.Ytolpnbeepiblkaa
