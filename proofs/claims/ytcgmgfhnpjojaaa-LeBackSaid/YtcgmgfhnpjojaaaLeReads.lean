/- The walk of rootcellarlaw2.LeReads: it returns true whatever is handed in; nothing that was there is turned. Conditions: lengths are those of texts and slices. -/
import Derived.Test.YtcgmgfhnpjojaaaLeWalk
import Derived.Test.YtcgmgfhnpjojaaaRegion
namespace Go.Proofs.Ytcgmgfhnpjojaaa
open Go.RowKit
open Go.BigFrame
set_option linter.unusedVariables false
theorem over_behind {w : World} {g : Nat} {s : ByteArray} {bad : Bool} (h : Blk w g 30 #[.string s, .bool bad]) (p : Behind w) :
    Calls Try.prog 19 #[.pointer (some ⟨g, 0, none⟩)] p.v fun e w'' => e = .returned (.bool (rdO s bad)) ∧ ∃ q : Behind w, w'' = q.v :=
  behind_of ((over_any g s bad p.v (h.below p.h h.lt)).mono fun e w' hh => ⟨hh.1, hh.2 ▸ Below.refl _ _⟩)
theorem rover_behind {w : World} {g : Nat} {s : ByteArray} {bad : Bool} (h : Blk w g 32 #[.string s, .bool bad]) (p : Behind w) :
    Calls Try.prog 20 #[.pointer (some ⟨g, 0, none⟩)] p.v fun e w'' => e = .returned (.bool (rdO s bad)) ∧ ∃ q : Behind w, w'' = q.v :=
  behind_of ((rover_any g s bad p.v (h.below p.h h.lt)).mono fun e w' hh => ⟨hh.1, hh.2 ▸ Below.refl _ _⟩)
theorem Blk.at_ {w : World} {g : Nat} {t : TypeId} {cs : Array Value} (h : Blk w g t cs) (i : Nat) (x : Value) (hx : cs[i]? = some x) (p : Behind w) : p.v.cell? ⟨g, i, none⟩ = some x :=
  p.cell ((h.cell i).trans hx)
theorem rdT_size' (s : ByteArray) (bad : Bool) (n : Int) : (rdT s bad n).2.1.size ≤ s.size := (rdT_size s bad n).2
theorem rdN_size (s : ByteArray) (bad : Bool) (n : Int) : (rdN s bad n).2.1.size ≤ s.size := by
  unfold rdN; split
  · exact Nat.le_refl _
  · exact rdT_size' s bad n
set_option maxRecDepth 100000 in
set_option maxHeartbeats 1600000 in
theorem leReads_walk (s : ByteArray) (a : Option Addr) (len cap : Nat) (zs : List Int) (w : World) (w0 : s.size ≤ maxLen) (w1 : IsRow .i64 w a len cap zs) :
    Calls Try.prog 5 #[.string s, .slice a len cap] w fun e w' => e = .returned (.bool true) ∧ Below w.heap.size w w' := by
  have R0 := Lib.hid w1
  have S0 := Lib.hid w0
  clear w0 w1
  by_cases h60 : len ≤ 60
  · go_enter Try.func5, Try.ntmps5
    go_wp2_with (go_at_call 10; refine (shown2_any _).mono ?_; rintro e w1 ⟨rfl, hb1⟩)
    go_loopw [8] (fun i wr => ∃ (k : Nat) (x : ByteArray) (b : Bool), k ≤ len ∧ i = .int .i64 k ∧ x.size ≤ maxLen ∧ Blk wr w1.heap.size 30 #[.string x, .bool b] ∧ Blk wr (w1.heap.size + 1) 32 #[.string x, .bool b] ∧ Below w.heap.size w wr) (fun i _ => len - (intOf i).toNat)
    case atStart =>
      exact ⟨0, s, false, by omega, rfl, S0.out, (Blk.new w1 _ _).alloc _, blk_new1 _ _ _ _, (hb1.alloc hb1.size _).alloc (by have := hb1.size; simp; omega) _⟩
    case round =>
      obtain ⟨k, x, b, hk, rfl, hx, hr1, hr2, hbel⟩ := hrel
      by_cases hlt : k < len
      · obtain ⟨bl, off, rfl, hblt, hcell, hwf⟩ := R0.out.at_ k hlt
        obtain ⟨z, hz⟩ : ∃ z, z = zs.getD k 0 := ⟨_, rfl⟩
        rw [← hz] at hcell hwf
        have hc := (hbel.cell (p := ⟨bl, off + k, none⟩) hblt).trans hcell
        clear hz hwf
        have HX := Lib.hid hx
        have HR1 := Lib.hid hr1
        have HR2 := Lib.hid hr2
        clear hx hr1 hr2
        by_cases hodd : k % 2 = 0
        · skip
          obtain ⟨m, hm⟩ : ∃ m, m = rdN x b z := ⟨_, rfl⟩
          have n1 := fun (w : World) hr => number_any w1.heap.size x b z HX.out w hr
          have n2 := fun (w : World) hr => rnumber_any (w1.heap.size + 1) x b z HX.out w hr
          have hsz := rdN_size x b z
          rw [← hm] at n1 n2 hsz
          obtain ⟨n, x', b'⟩ := m
          dsimp only at n1 n2 hsz
          have HX' : Hid (x'.size ≤ maxLen) := Nat.le_trans hsz HX.out
          have N1 := Lib.hid n1
          have N2 := Lib.hid n2
          clear n1 n2 hm hsz
          have hko : ((k : Int) % 2 == 0) = true := by rw [beq_iff_eq]; omega
          clear hodd
          go_wp2_with fail
          refine (N1.out _ HR1.out).mono ?_
          rintro e w2 ⟨rfl, hq1, hg1⟩
          have hB2 : Below w.heap.size w w2 := below_gby hbel hg1 hbel.size hb1.size
          have hr2 := HR2.out.grown hg1 (by intro h; injection h with h; omega)
          have hc2 := (hB2.cell (p := ⟨bl, off + k, none⟩) hblt).trans hcell
          have HQ1 := Lib.hid hq1
          have HQ2 := Lib.hid hr2
          clear hq1 hr2 hg1 hc hbel
          go_wp2_with fail
          refine (N2.out _ HQ2.out).mono ?_
          rintro e w3 ⟨rfl, hq2, hg2⟩
          have hB3 : Below w.heap.size w w3 := below_gby hB2 hg2 hB2.size (by have := hb1.size; omega)
          have hq1 := HQ1.out.grown hg2 (by intro h; injection h with h; omega)
          have HP1 := Lib.hid hq1
          have HP2 := Lib.hid hq2
          clear hq1 hq2 hg2 hc2 hB2
          go_wp2_with fail
          have f1 := fun p => HP1.out.at_ 0 (.string x') rfl p
          have f2 := fun p => HP1.out.at_ 1 (.bool b') rfl p
          have f3 := fun p => HP2.out.at_ 0 (.string x') rfl p
          have f4 := fun p => HP2.out.at_ 1 (.bool b') rfl p
          have o1 := over_behind HP1.out
          have o2 := rover_behind HP2.out
          have O1 := Lib.hid o1
          have O2 := Lib.hid o2
          clear o1 o2
          refine wp_region_behind (by kernel_rfl) (by kernel_rfl) ?_
          repeat (go_big_quiet_step (first
            | (go_at_call 19; with_reducible exact O1.out _)
            | (go_at_call 20; with_reducible exact O2.out _)))
          refine wpQuiet_nil ?_
          intro w4 hb4
          clear f1 f2 f3 f4
          go_wp2
          go_roundw
          case rel => exact ⟨k + 1, x', b', by omega, by go_num, HX'.out, HP1.out.below hb4 HP1.out.lt, HP2.out.below hb4 HP2.out.lt, bt hB3 hb4⟩
          case measure => simp [intOf]; omega
        · skip
          obtain ⟨m, hm⟩ : ∃ m, m = rdT x b z := ⟨_, rfl⟩
          have n1 := fun (w : World) hr => text_any w1.heap.size x b z HX.out w hr
          have n2 := fun (w : World) hr => rtext_any (w1.heap.size + 1) x b z HX.out w hr
          have hsz := rdT_size' x b z
          rw [← hm] at n1 n2 hsz
          obtain ⟨n, x', b'⟩ := m
          dsimp only at n1 n2 hsz
          have HX' : Hid (x'.size ≤ maxLen) := Nat.le_trans hsz HX.out
          have N1 := Lib.hid n1
          have N2 := Lib.hid n2
          clear n1 n2 hm hsz
          have hko : ((k : Int) % 2 == 0) = false := by rw [beq_eq_false_iff_ne]; omega
          clear hodd
          go_wp2_with fail
          refine (N1.out _ HR1.out).mono ?_
          rintro e w2 ⟨rfl, hq1, hg1⟩
          have hB2 : Below w.heap.size w w2 := below_gby hbel hg1 hbel.size hb1.size
          have hr2 := HR2.out.grown hg1 (by intro h; injection h with h; omega)
          have hc2 := (hB2.cell (p := ⟨bl, off + k, none⟩) hblt).trans hcell
          have HQ1 := Lib.hid hq1
          have HQ2 := Lib.hid hr2
          clear hq1 hr2 hg1 hc hbel
          go_wp2_with fail
          refine (N2.out _ HQ2.out).mono ?_
          rintro e w3 ⟨rfl, hq2, hg2⟩
          have hB3 : Below w.heap.size w w3 := below_gby hB2 hg2 hB2.size (by have := hb1.size; omega)
          have hq1 := HQ1.out.grown hg2 (by intro h; injection h with h; omega)
          have HP1 := Lib.hid hq1
          have HP2 := Lib.hid hq2
          clear hq1 hq2 hg2 hc2 hB2
          go_wp2_with fail
          have f1 := fun p => HP1.out.at_ 0 (.string x') rfl p
          have f2 := fun p => HP1.out.at_ 1 (.bool b') rfl p
          have f3 := fun p => HP2.out.at_ 0 (.string x') rfl p
          have f4 := fun p => HP2.out.at_ 1 (.bool b') rfl p
          have o1 := over_behind HP1.out
          have o2 := rover_behind HP2.out
          have O1 := Lib.hid o1
          have O2 := Lib.hid o2
          clear o1 o2
          refine wp_region_behind (by kernel_rfl) (by kernel_rfl) ?_
          repeat (go_big_quiet_step (first
            | (go_at_call 19; with_reducible exact O1.out _)
            | (go_at_call 20; with_reducible exact O2.out _)))
          refine wpQuiet_nil ?_
          intro w4 hb4
          clear f1 f2 f3 f4
          go_wp2
          go_roundw
          case rel => exact ⟨k + 1, x', b', by omega, by go_num, HX'.out, HP1.out.below hb4 HP1.out.lt, HP2.out.below hb4 HP2.out.lt, bt hB3 hb4⟩
          case measure => simp [intOf]; omega
      · obtain rfl : k = len := by omega
        clear hr1 hr2 hx
        go_wp2
        go_ret
        exact ⟨rfl, hbel⟩
  · go_enter Try.func5, Try.ntmps5
    go_wp2_with (go_at_call 10; refine (shown2_any _).mono ?_; rintro e w1 ⟨rfl, hb1⟩)
    go_ret
    exact ⟨rfl, hb1⟩
end Go.Proofs.Ytcgmgfhnpjojaaa
