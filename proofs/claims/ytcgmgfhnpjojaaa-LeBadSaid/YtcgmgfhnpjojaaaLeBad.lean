/- The walk of rootcellarlaw2.LeBad: it returns true whatever is handed in; nothing that was there is turned. Conditions: lengths are those of texts and slices. -/
import Derived.Test.YtcgmgfhnpjojaaaLeReads
import Derived.BigGuardPart
import Derived.Deep.Cut
namespace Go.Proofs.Ytcgmgfhnpjojaaa
open Go.RowKit
open Go.BigFrame
set_option linter.unusedVariables false
theorem rdT_cases (x : ByteArray) (b : Bool) (z : Int) : (b = true ∧ rdT x b z = (⟨#[]⟩, x, true)) ∨ (b = false ∧ rdT x b z = (⟨#[]⟩, x, true)) ∨
    (b = false ∧ ∃ t x', rdT x b z = (t, x', false) ∧ t ++ x' = x ∧ (t.size : Int) = z) := by
  cases b with
  | true => exact .inl ⟨rfl, rdT_bad x true z (.inl rfl)⟩
  | false =>
    by_cases h : z < 0 ∨ (x.size : Int) < z
    · exact .inr (.inl ⟨rfl, rdT_bad x false z (.inr h)⟩)
    · obtain ⟨m, rfl⟩ : ∃ m : Nat, z = (m : Int) := ⟨z.toNat, by omega⟩
      refine .inr (.inr ⟨rfl, _, _, rdT_good x m (by omega), ?_, ?_⟩)
      · apply ByteArray.ext
        apply Array.ext'
        have hl : x.data.toList.length = x.size := Array.length_toList
        rw [ByteArray.data_append, Array.toList_append, extract_list, ByteArray.data_extract]
        simp only [Array.toList_extract, List.extract_eq_take_drop]
        rw [List.take_of_length_le (l := List.drop m _) (by rw [List.length_drop]; omega), List.take_append_drop]
      · rw [ByteArray.size_extract]; omega
set_option maxRecDepth 100000 in
set_option maxHeartbeats 3200000 in
theorem leBad_walk (s : ByteArray) (a : Option Addr) (len cap : Nat) (zs : List Int) (w : World) (w0 : s.size ≤ maxLen) (w1 : IsRow .i64 w a len cap zs) :
    Calls Try.prog 7 #[.string s, .slice a len cap] w fun e w' => e = .returned (.bool true) ∧ Below w.heap.size w w' := by
  have R0 := Lib.hid w1
  have S0 := Lib.hid w0
  clear w0 w1
  by_cases h60 : len ≤ 60
  · go_enter Try.func7, Try.ntmps7
    go_wp2_with (go_at_call 10; refine (shown2_any _).mono ?_; rintro e w1 ⟨rfl, hb1⟩)
    go_loopw [7] (fun i wr => ∃ (k : Nat) (x : ByteArray) (b : Bool), k ≤ len ∧ i = .int .i64 k ∧ x.size ≤ maxLen ∧ Blk wr w1.heap.size 30 #[.string x, .bool b] ∧ Below w.heap.size w wr) (fun i _ => len - (intOf i).toNat)
    case atStart =>
      exact ⟨0, s, false, by omega, rfl, S0.out, Blk.new w1 _ _, hb1.alloc hb1.size _⟩
    case round =>
      obtain ⟨k, x, b, hk, rfl, hx, hr1, hbel⟩ := hrel
      by_cases hlt : k < len
      · obtain ⟨bl, off, rfl, hblt, hcell, hwf⟩ := R0.out.at_ k hlt
        obtain ⟨z, hz⟩ : ∃ z, z = zs.getD k 0 := ⟨_, rfl⟩
        rw [← hz] at hcell hwf
        have hc := (hbel.cell (p := ⟨bl, off + k, none⟩) hblt).trans hcell
        have hsz := rdT_size' x b z
        have n1 := fun (w : World) hr => text_any w1.heap.size x b z hx w hr
        have HX := Lib.hid hx
        have c0 := hr1.cell 0
        have c1 := hr1.cell 1
        have HR1 := Lib.hid hr1
        clear hz hwf hx hr1
        rcases rdT_cases x b z with ⟨rfl, hm⟩ | ⟨rfl, hm⟩ | ⟨rfl, t, x', hm, hcat, hts⟩
        · skip
          rw [hm] at n1 hsz
          dsimp only at n1 hsz
          have HX' : Hid (x.size ≤ maxLen) := Nat.le_trans hsz HX.out
          have N1 := Lib.hid n1
          rw [show (#[Value.string x, Value.bool true] : Array Value)[0]? = some (.string x) from rfl] at c0
          rw [show (#[Value.string x, Value.bool true] : Array Value)[1]? = some (.bool true) from rfl] at c1
          have hxx : (x.toList == x.toList) = true := beq_self_eq_true _
          clear n1 hm
          go_wp2_with fail
          refine (N1.out _ HR1.out).mono ?_
          rintro e w2 ⟨rfl, hq1, hg1⟩
          have hB2 : Below w.heap.size w w2 := below_gby hbel hg1 hbel.size hb1.size
          have HC := Lib.hid hcell
          have HP1 := Lib.hid hq1
          clear hq1 hg1 hc hbel c0 c1 hcell
          have c0 := HP1.out.cell 0
          have c1 := HP1.out.cell 1
          rw [show (#[Value.string x, Value.bool true] : Array Value)[0]? = some (.string x) from rfl] at c0
          rw [show (#[Value.string x, Value.bool true] : Array Value)[1]? = some (.bool true) from rfl] at c1
          have hc := (hB2.cell (p := ⟨bl, off + k, none⟩) hblt).trans HC.out
          go_upto_region 11 with fail
          dsimp only [List.append]
          go_wp2
          go_roundw
          case rel => exact ⟨k + 1, x, true, by omega, by go_num, HX'.out, HP1.out, hB2⟩
          case measure => simp [intOf]; omega
        · skip
          rw [hm] at n1 hsz
          dsimp only at n1 hsz
          have HX' : Hid (x.size ≤ maxLen) := Nat.le_trans hsz HX.out
          have N1 := Lib.hid n1
          rw [show (#[Value.string x, Value.bool false] : Array Value)[0]? = some (.string x) from rfl] at c0
          rw [show (#[Value.string x, Value.bool false] : Array Value)[1]? = some (.bool false) from rfl] at c1
          have hxx : (x.toList == x.toList) = true := beq_self_eq_true _
          clear n1 hm
          go_wp2_with fail
          refine (N1.out _ HR1.out).mono ?_
          rintro e w2 ⟨rfl, hq1, hg1⟩
          have hB2 : Below w.heap.size w w2 := below_gby hbel hg1 hbel.size hb1.size
          have HC := Lib.hid hcell
          have HP1 := Lib.hid hq1
          clear hq1 hg1 hc hbel c0 c1 hcell
          have c0 := HP1.out.cell 0
          have c1 := HP1.out.cell 1
          rw [show (#[Value.string x, Value.bool true] : Array Value)[0]? = some (.string x) from rfl] at c0
          rw [show (#[Value.string x, Value.bool true] : Array Value)[1]? = some (.bool true) from rfl] at c1
          have hc := (hB2.cell (p := ⟨bl, off + k, none⟩) hblt).trans HC.out
          go_upto_region 11 with fail
          dsimp only [List.append]
          go_wp2
          go_roundw
          case rel => exact ⟨k + 1, x, true, by omega, by go_num, HX'.out, HP1.out, hB2⟩
          case measure => simp [intOf]; omega
        · skip
          rw [hm] at n1 hsz
          dsimp only at n1 hsz
          have HX' : Hid (x'.size ≤ maxLen) := Nat.le_trans hsz HX.out
          have N1 := Lib.hid n1
          rw [show (#[Value.string x, Value.bool false] : Array Value)[0]? = some (.string x) from rfl] at c0
          rw [show (#[Value.string x, Value.bool false] : Array Value)[1]? = some (.bool false) from rfl] at c1
          have hxx : (x.toList == x.toList) = true := beq_self_eq_true _
          have hsum : t.size + x'.size ≤ 9223372036854775807 := by
            have h1 := HX.out
            rw [← hcat, ByteArray.size_append] at h1
            unfold maxLen at h1
            omega
          have hlen : ((t.size : Int) != z) = false := by simp [hts]
          clear hts
          clear n1 hm
          go_wp2_with fail
          refine (N1.out _ HR1.out).mono ?_
          rintro e w2 ⟨rfl, hq1, hg1⟩
          have hB2 : Below w.heap.size w w2 := below_gby hbel hg1 hbel.size hb1.size
          have HC := Lib.hid hcell
          have HP1 := Lib.hid hq1
          clear hq1 hg1 hc hbel c0 c1 hcell
          have c0 := HP1.out.cell 0
          have c1 := HP1.out.cell 1
          rw [show (#[Value.string x', Value.bool false] : Array Value)[0]? = some (.string x') from rfl] at c0
          rw [show (#[Value.string x', Value.bool false] : Array Value)[1]? = some (.bool false) from rfl] at c1
          have hc := (hB2.cell (p := ⟨bl, off + k, none⟩) hblt).trans HC.out
          go_upto_region 11 with fail
          dsimp only [List.append]
          go_wp2
          go_roundw
          case rel => exact ⟨k + 1, x', false, by omega, by go_num, HX'.out, HP1.out, hB2⟩
          case measure => simp [intOf]; omega
      · obtain rfl : k = len := by omega
        have n9 := number_any w1.heap.size x b 9 hx wr hr1
        have h9 : rdN x b 9 = (0, x, true) := by unfold rdN; rw [if_pos (by omega)]
        rw [h9] at n9
        have N9 := Lib.hid n9
        clear n9 h9 hr1 hx
        go_wp2_with fail
        refine N9.out.mono ?_
        rintro e w2 ⟨rfl, hq, hg⟩
        have hB2 : Below w.heap.size w w2 := below_gby hbel hg hbel.size hb1.size
        have c1 := hq.cell 1
        rw [show (#[Value.string x, Value.bool true] : Array Value)[1]? = some (.bool true) from rfl] at c1
        have HQ := Lib.hid hq
        clear hq hg hbel
        go_wp2_with fail
        refine (over_any _ _ _ _ HQ.out).mono ?_
        rintro e w3 ⟨rfl, rfl⟩
        go_wp2_with fail
        go_ret
        exact ⟨by simp [rdO], hB2⟩
  · go_enter Try.func7, Try.ntmps7
    go_wp2_with (go_at_call 10; refine (shown2_any _).mono ?_; rintro e w1 ⟨rfl, hb1⟩)
    go_ret
    exact ⟨rfl, hb1⟩
end Go.Proofs.Ytcgmgfhnpjojaaa
