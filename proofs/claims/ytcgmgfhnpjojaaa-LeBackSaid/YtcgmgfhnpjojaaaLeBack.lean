/- The walk of rootcellarlaw2.LeBack: it returns true whatever is handed in; nothing that was there is turned. Conditions: lengths are those of slices. -/
import Derived.Test.YtcgmgfhnpjojaaaLeReads
import Derived.Test.YtcgmgfhnpjojaaaLeBackP
import Derived.BigGuardPart
namespace Go.Proofs.Ytcgmgfhnpjojaaa
open Go.RowKit
open Go.BigFrame
set_option linter.unusedVariables false
set_option maxRecDepth 100000 in
set_option maxHeartbeats 6400000 in
theorem leBack_walk (a : Option Addr) (len cap : Nat) (zs : List Int) (w : World) (w1 : IsRow .u64 w a len cap zs) :
    Calls Try.prog 6 #[.slice a len cap] w fun e w' => e = .returned (.bool true) ∧ Below w.heap.size w w' := by
  have R0 := Lib.hid w1
  clear w1
  by_cases h60 : len ≤ 60
  · by_cases hz : len = 0
    · subst hz
      go_enter Try.func6, Try.ntmps6
      go_wp2_with (go_at_call 10; refine (shown2_any _).mono ?_; rintro e w1 ⟨rfl, hb1⟩)
      go_ret
      exact ⟨rfl, hb1⟩
    · have hpos : 0 < len := by omega
      have hlz : ((len : Int) == 0) = false := by rw [beq_eq_false_iff_ne]; omega
      clear hz
      obtain ⟨f, hf⟩ : ∃ f : Nat → Nat, f = fun k => (zs.getD k 0).toNat := ⟨_, rfl⟩
      have F0 := Lib.hid hf
      clear hf
      have F : ∀ k, k < len → ∃ bl off, a = some ⟨bl, off, none⟩ ∧ bl < w.heap.size ∧ w.cell? ⟨bl, off + k, none⟩ = some (.int .u64 ((f k : Nat) : Int)) ∧ f k < 18446744073709551616 := by
        intro k hk
        obtain ⟨bl, off, ha, hblt, hcell, hwf⟩ := R0.out.at_ k hk
        obtain ⟨m, hm, hml⟩ := u64_nat hwf
        have : f k = m := by rw [F0.out]; simp only [hm]; omega
        rw [hm, ← this] at hcell
        exact ⟨bl, off, ha, hblt, hcell, by omega⟩
      have FH := Lib.hid F
      clear F
      go_enter Try.func6, Try.ntmps6
      go_wp2_with (go_at_call 10; refine (shown2_any _).mono ?_; rintro e w1 ⟨rfl, hb1⟩)
      go_loopw [4, 5] (fun sv i wr => ∃ (k : Nat) (x : List UInt8), k ≤ len ∧ sv = .string (arr x) ∧ i = .int .i64 k ∧ Hid (x ++ tl f (len - k) k = tl f len 0) ∧ Below w.heap.size w wr) (fun sv i _ => len - (intOf i).toNat)
      case atStart =>
        exact ⟨0, [], by omega, rfl, rfl, Lib.hid (by rw [Nat.sub_zero, List.nil_append]), hb1⟩
      case round =>
        obtain ⟨k, x, hk, rfl, rfl, hx, hbel⟩ := hrel
        have hxl : x.length ≤ 480 := by
          have h1 := congrArg List.length hx.out
          have h2 := tl_length_le f len 0
          rw [List.length_append] at h1
          omega
        have hxs : (arr x).size ≤ 480 := by rw [arr_size]; exact hxl
        by_cases hlt : k < len
        · obtain ⟨bl, off, rfl, hblt, hcell, hml⟩ := FH.out k hlt
          have hc := (hbel.cell (p := ⟨bl, off + k, none⟩) hblt).trans hcell
          obtain ⟨m, hm⟩ : ∃ m, m = f k := ⟨_, rfl⟩
          rw [← hm] at hc hml
          obtain ⟨tt, ht⟩ : ∃ tt, tt = arr (LeP.bytes (clamp8 (1 + (k : Int) % 8)) m) := ⟨_, rfl⟩
          have n1 := fun (w : World) => put_any m (1 + (k : Int) % 8) hml w
          rw [show (⟨(LeP.bytes (clamp8 (1 + (k : Int) % 8)) m).toArray⟩ : ByteArray) = tt from ht.symm] at n1
          have htl : tt.size ≤ 8 := by rw [ht, arr_size, LeP.bytes_length, clamp8_at]; omega
          have hrel' : (arr x) ++ tt = arr (x ++ LeP.bytes (1 + k % 8) (f k)) := by rw [ht, clamp8_at, arr_append, hm]
          have N1 := Lib.hid n1
          have HR := Lib.hid hrel'
          have hsum : (arr x).size + tt.size ≤ 9223372036854775807 := by omega
          clear n1 hrel' ht hm hcell hml
          go_wp2_with fail
          refine (N1.out _).mono ?_
          rintro e w2 ⟨rfl, hb2⟩
          go_wp2
          go_roundw
          case rel =>
            refine ⟨k + 1, x ++ LeP.bytes (1 + k % 8) (f k), by omega, by rw [HR.out], by go_num, Lib.hid ?_, hbel.trans (hb2.mono hbel.size)⟩
            rw [List.append_assoc, ← tl_at f len k hlt, hx.out]
          case measure => simp [intOf]; omega
        · obtain rfl : k = len := by omega
          obtain rfl : x = tl f k 0 := by have := hx.out; rw [Nat.sub_self] at this; simpa [tl] using this
          have hp1 : 1 ≤ (arr (tl f k 0)).size := by rw [arr_size]; exact tl_pos f k 0 hpos
          have hex : (arr (tl f k 0)).extract 0 ((arr (tl f k 0)).size - 1) = arr (tl f (k - 0) 0).dropLast := by
            rw [arr_extract, arr_size, Nat.sub_zero, List.drop_zero, List.dropLast_eq_take]
          have HEX := Lib.hid hex
          have hsz0 : (arr (tl f (k - 0) 0)).size ≤ maxLen := by rw [arr_size, Nat.sub_zero]; unfold maxLen; omega
          have hsz1 : (arr (tl f (k - 0) 0).dropLast).size ≤ maxLen := by rw [arr_size, Nat.sub_zero, List.length_dropLast]; unfold maxLen; omega
          obtain ⟨s, hs⟩ : ∃ s, s = arr (tl f k 0) := ⟨_, rfl⟩
          rw [← hs] at hp1 hex hxs ⊢
          have HS := Lib.hid hs
          have HE := Lib.hid hex
          have H0 := Lib.hid hsz0
          have H1 := Lib.hid hsz1
          clear hex hs hxl hx HEX hsz0 hsz1
          obtain ⟨W1, hW1⟩ : ∃ W1, W1 = wr := ⟨_, rfl⟩
          subst hW1
          go_wp2
          go_loopw [8] (fun i wq => ∃ (j : Nat) (y : ByteArray) (b : Bool), j ≤ k ∧ i = .int .i64 j ∧ Blk wq W1.heap.size 30 #[.string (arr (tl f (k - j) j)), .bool false] ∧ Blk wq (W1.heap.size + 1) 30 #[.string y, .bool b] ∧ Hid (j < k → b = false ∧ y = arr (tl f (k - j) j).dropLast) ∧ Hid (j = k → b = true) ∧ y.size ≤ maxLen ∧ Below w.heap.size w wq) (fun i _ => k - (intOf i).toNat)
          case atStart =>
            refine ⟨0, _, false, by omega, rfl, ?_, blk_new1 _ _ _ _, Lib.hid fun _ => ⟨rfl, HE.out⟩, Lib.hid fun h => by omega, ?_, (hbel.alloc hbel.size _).alloc (by have := hbel.size; simp; omega) _⟩
            · rw [Nat.sub_zero, ← HS.out]; exact (Blk.new W1 _ _).alloc _
            · rw [HE.out]; exact H1.out
          case round =>
            obtain ⟨j, y, b, hj, rfl, hr, hq, hy, hyl, hys, hbelq⟩ := hrel
            have hxs2 : (arr (tl f (k - j) j)).size ≤ maxLen := by
              have h2 := tl_length_le f (k - j) j
              rw [arr_size]; unfold maxLen; omega
            by_cases hlt : j < k
            · obtain ⟨bl, off, rfl, hblt, hcell, hml⟩ := FH.out j hlt
              obtain ⟨m, hm⟩ : ∃ m, m = f j := ⟨_, rfl⟩
              obtain ⟨m', hm'⟩ : ∃ m', m' = f j % 256 ^ (1 + j % 8) := ⟨_, rfl⟩
              obtain ⟨x', hx'⟩ : ∃ x', x' = arr (tl f (k - (j + 1)) (j + 1)) := ⟨_, rfl⟩
              have hr' := rd_r f k j hlt
              rw [← hm', ← hx'] at hr'
              have hm'l : m' < 18446744073709551616 := by rw [hm']; exact Nat.lt_of_le_of_lt (Nat.mod_le _ _) hml
              have hall : j % 8 = 7 → m' = m := fun h => by rw [hm', hm, mod_all _ _ hml h]
              rw [← hm] at hcell hml
              obtain ⟨tt, ht⟩ : ∃ tt, tt = arr (LeP.bytes (clamp8 (1 + (j : Int) % 8)) m) := ⟨_, rfl⟩
              have htt : arr (LeP.bytes (clamp8 (1 + (j : Int) % 8)) m') = tt := by rw [ht, clamp8_at, hm', ← hm, bytes_mod]
              obtain ⟨rfl, rfl⟩ := hy.out hlt
              have p1 := fun (w : World) => put_any m' (1 + (j : Int) % 8) hm'l w
              have p2 := fun (w : World) => put_any m (1 + (j : Int) % 8) hml w
              rw [show (⟨(LeP.bytes (clamp8 (1 + (j : Int) % 8)) m').toArray⟩ : ByteArray) = tt from htt] at p1
              rw [show (⟨(LeP.bytes (clamp8 (1 + (j : Int) % 8)) m).toArray⟩ : ByteArray) = tt from ht.symm] at p2
              have n1 := fun (w : World) hh => number_any W1.heap.size (arr (tl f (k - j) j)) false (1 + (j : Int) % 8) hxs2 w hh
              have n2 := fun (w : World) hh => number_any (W1.heap.size + 1) (arr (tl f (k - j) j).dropLast) false (1 + (j : Int) % 8) hys w hh
              rw [hr'] at n1
              dsimp only at n1
              have hxs' : x'.size ≤ maxLen := by
                have h2 := tl_length_le f (k - (j + 1)) (j + 1)
                rw [hx', arr_size]; unfold maxLen; omega
              have HX' := Lib.hid hx'
              have HXS' := Lib.hid hxs'
              have HALL := Lib.hid hall
              have HM := Lib.hid hm'
              have N1 := Lib.hid n1
              have P1 := Lib.hid p1
              have P2 := Lib.hid p2
              have HR := Lib.hid hr
              have HQ := Lib.hid hq
              have HC := Lib.hid hcell
              have HYS := Lib.hid hys
              clear n1 p1 p2 hr hq hcell hys hx' hxs' hxs2 htt ht hr' hm' hall hml hm'l hm hy hyl
              by_cases hlast : j + 1 < k
              · have hq' := rd_q f k j hlast
                obtain ⟨y2, hy2⟩ : ∃ y2, y2 = arr (tl f (k - (j + 1)) (j + 1)).dropLast := ⟨_, rfl⟩
                rw [← hy2, ← HM.out] at hq'
                rw [hq'] at n2
                dsimp only at n2
                have hys2 : y2.size ≤ maxLen := by
                  have h2 := tl_length_le f (k - (j + 1)) (j + 1)
                  have h3 := tl_length_le f (k - j) j
                  rw [hy2, arr_size, List.length_dropLast]; unfold maxLen; omega
                have N2 := Lib.hid n2
                have HY2 := Lib.hid hy2
                have HYS2 := Lib.hid hys2
                clear n2 hy2 hq' hys2
                go_wp2_with fail
                refine (N1.out _ HR.out).mono ?_
                rintro e w2 ⟨rfl, hq1, hg1⟩
                have hB2 : Below w.heap.size w w2 := below_gby hbelq hg1 hbelq.size hbel.size
                have hr2 := HQ.out.grown hg1 (by intro h; injection h with h; omega)
                have HP1 := Lib.hid hq1
                have HQ2 := Lib.hid hr2
                clear hq1 hr2 hg1 hbelq HR HQ
                go_wp2_with fail
                refine (N2.out _ HQ2.out).mono ?_
                rintro e w3 ⟨rfl, hq2, hg2⟩
                have hB3 : Below w.heap.size w w3 := below_gby hB2 hg2 hB2.size (by have := hbel.size; omega)
                have hq1 := HP1.out.grown hg2 (by intro h; injection h with h; omega)
                have HS1 := Lib.hid hq1
                have HS2 := Lib.hid hq2
                clear hq1 hq2 hg2 hB2 HP1 HQ2
                go_wp2_with fail
                have hc3 := (hB3.cell (p := ⟨bl, off + j, none⟩) hblt).trans HC.out
                have f1 := fun p => Behind.cell (w := w3) p hc3
                have f2 := fun p => HS2.out.at_ 1 (.bool false) rfl p
                have pp1 := fun (p : Behind w3) => behind_of (P1.out p.v)
                have pp2 := fun (p : Behind w3) => behind_of (P2.out p.v)
                have Q1 := Lib.hid pp1
                have Q2 := Lib.hid pp2
                have htt : (tt.toList == tt.toList) = true := beq_self_eq_true _
                have hmm1 : ((m' : Int) == (m' : Int)) = true := beq_self_eq_true _
                have hmm2 : ((m' : Int) != (m' : Int)) = false := by simp
                have hd1 : ((j : Int) < (k : Int) - 1) = True := by simp; omega
                have hd2 : ((j : Int) == (k : Int) - 1) = false := by rw [beq_eq_false_iff_ne]; omega
                clear pp1 pp2 hc3
                refine wp_region_behind (by kernel_rfl) (by kernel_rfl) ?_
                repeat (go_big_quiet_step (first
                  | (go_at_call 11; with_reducible exact Q1.out _)
                  | (go_at_call 11; with_reducible exact Q2.out _)))
                refine wpQuiet_nil ?_
                intro w4 hb4
                clear f1 f2
                have hc4 := ((hB3.trans (hb4.mono hB3.size)).cell (p := ⟨bl, off + j, none⟩) hblt).trans HC.out
                by_cases h7 : j % 8 = 7
                · have e7 := HALL.out h7
                  subst e7
                  have h7b : ((j : Int) % 8 == 7) = true := by rw [beq_iff_eq]; omega
                  clear h7
                  go_wp2
                  go_roundw
                  case rel =>
                    refine ⟨j + 1, y2, false, by omega, by go_num, ?_, HS2.out.below hb4 HS2.out.lt, Lib.hid (fun _ => ⟨rfl, HY2.out⟩), Lib.hid (fun h => by omega), HYS2.out, bt hB3 hb4⟩
                    rw [← HX'.out]; exact HS1.out.below hb4 HS1.out.lt
                  case measure => simp [intOf]; omega
                · have h7b : ((j : Int) % 8 == 7) = false := by rw [beq_eq_false_iff_ne]; omega
                  clear h7
                  go_wp2
                  go_roundw
                  case rel =>
                    refine ⟨j + 1, y2, false, by omega, by go_num, ?_, HS2.out.below hb4 HS2.out.lt, Lib.hid (fun _ => ⟨rfl, HY2.out⟩), Lib.hid (fun h => by omega), HYS2.out, bt hB3 hb4⟩
                    rw [← HX'.out]; exact HS1.out.below hb4 HS1.out.lt
                  case measure => simp [intOf]; omega
              · have hq' := rd_last f k j (by omega)
                rw [hq'] at n2
                dsimp only at n2
                have HYS2 := HYS
                have N2 := Lib.hid n2
                clear n2 hq'
                go_wp2_with fail
                refine (N1.out _ HR.out).mono ?_
                rintro e w2 ⟨rfl, hq1, hg1⟩
                have hB2 : Below w.heap.size w w2 := below_gby hbelq hg1 hbelq.size hbel.size
                have hr2 := HQ.out.grown hg1 (by intro h; injection h with h; omega)
                have HP1 := Lib.hid hq1
                have HQ2 := Lib.hid hr2
                clear hq1 hr2 hg1 hbelq HR HQ
                go_wp2_with fail
                refine (N2.out _ HQ2.out).mono ?_
                rintro e w3 ⟨rfl, hq2, hg2⟩
                have hB3 : Below w.heap.size w w3 := below_gby hB2 hg2 hB2.size (by have := hbel.size; omega)
                have hq1 := HP1.out.grown hg2 (by intro h; injection h with h; omega)
                have HS1 := Lib.hid hq1
                have HS2 := Lib.hid hq2
                clear hq1 hq2 hg2 hB2 HP1 HQ2
                go_wp2_with fail
                have hc3 := (hB3.cell (p := ⟨bl, off + j, none⟩) hblt).trans HC.out
                have f1 := fun p => Behind.cell (w := w3) p hc3
                have f2 := fun p => HS2.out.at_ 1 (.bool true) rfl p
                have pp1 := fun (p : Behind w3) => behind_of (P1.out p.v)
                have pp2 := fun (p : Behind w3) => behind_of (P2.out p.v)
                have Q1 := Lib.hid pp1
                have Q2 := Lib.hid pp2
                have htt : (tt.toList == tt.toList) = true := beq_self_eq_true _
                have hmm1 : ((m' : Int) == (m' : Int)) = true := beq_self_eq_true _
                have hmm2 : ((m' : Int) != (m' : Int)) = false := by simp
                have hd1 : ((j : Int) < (k : Int) - 1) = False := by simp; omega
                have hd2 : ((j : Int) == (k : Int) - 1) = true := by rw [beq_iff_eq]; omega
                clear pp1 pp2 hc3
                refine wp_region_behind (by kernel_rfl) (by kernel_rfl) ?_
                repeat (go_big_quiet_step (first
                  | (go_at_call 11; with_reducible exact Q1.out _)
                  | (go_at_call 11; with_reducible exact Q2.out _)))
                refine wpQuiet_nil ?_
                intro w4 hb4
                clear f1 f2
                have hc4 := ((hB3.trans (hb4.mono hB3.size)).cell (p := ⟨bl, off + j, none⟩) hblt).trans HC.out
                by_cases h7 : j % 8 = 7
                · have e7 := HALL.out h7
                  subst e7
                  have h7b : ((j : Int) % 8 == 7) = true := by rw [beq_iff_eq]; omega
                  clear h7
                  go_wp2
                  go_roundw
                  case rel =>
                    refine ⟨j + 1, _, true, by omega, by go_num, ?_, HS2.out.below hb4 HS2.out.lt, Lib.hid (fun h => by omega), Lib.hid (fun _ => rfl), HYS2.out, bt hB3 hb4⟩
                    rw [← HX'.out]; exact HS1.out.below hb4 HS1.out.lt
                  case measure => simp [intOf]; omega
                · have h7b : ((j : Int) % 8 == 7) = false := by rw [beq_eq_false_iff_ne]; omega
                  clear h7
                  go_wp2
                  go_roundw
                  case rel =>
                    refine ⟨j + 1, _, true, by omega, by go_num, ?_, HS2.out.below hb4 HS2.out.lt, Lib.hid (fun h => by omega), Lib.hid (fun _ => rfl), HYS2.out, bt hB3 hb4⟩
                    rw [← HX'.out]; exact HS1.out.below hb4 HS1.out.lt
                  case measure => simp [intOf]; omega
            · obtain rfl : j = k := by omega
              have hbt := hyl.out rfl
              subst hbt
              have o1 := over_any _ _ _ _ hr
              rw [rdO_end f j j rfl] at o1
              have o2 := over_any _ _ _ _ hq
              rw [rdO_bad] at o2
              have O1 := Lib.hid o1
              have O2 := Lib.hid o2
              clear o1 o2 hr hq hy hyl
              go_wp2_with fail
              refine O1.out.mono ?_
              rintro e w3 ⟨rfl, rfl⟩
              go_wp2_with fail
              refine O2.out.mono ?_
              rintro e w4 ⟨rfl, rfl⟩
              go_wp2_with fail
              go_ret
              exact ⟨rfl, hbelq⟩
  · go_enter Try.func6, Try.ntmps6
    go_wp2_with (go_at_call 10; refine (shown2_any _).mono ?_; rintro e w1 ⟨rfl, hb1⟩)
    go_ret
    exact ⟨rfl, hb1⟩
end Go.Proofs.Ytcgmgfhnpjojaaa
