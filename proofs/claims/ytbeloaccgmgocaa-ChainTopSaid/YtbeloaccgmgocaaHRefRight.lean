/- The contract of rootcellarref9.Right: what cell.Right answers. Condition: texts are no longer than texts can be. -/
import Derived.Test.YtbeloaccgmgocaaHRight
import Derived.Test.YtbeloaccgmgocaaRegion
namespace Go.Proofs.Ytbeloaccgmgocaa.Pr
open Go.RowKit Go.BigFrame Go.Proofs.YtbeloaccgmgocaaW.PrintWords Go.Proofs.YtbeloaccgmgocaaW.PrintLast Go.Proofs.Ytbeloaccgmgocaa
set_option linter.unusedVariables false
abbrev SR := S83
abbrev kR := k83
def toC (x : SR) : SC := ⟨x.f0, x.f1⟩
theorem cellsAt_of_R {w : World} {A : Option Addr} {l : List SR} (h : Kd.C kR w A l.length l) : CellsAt w A (l.map toC) := by
  intro hp
  rw [List.length_map] at hp
  have hall : ∀ i (hi : i < l.length), ∃ ad, A = some ad ∧ w.cell? (ad.add (i * 2)) = some (.int .i64 l[i].f0) ∧ w.cell? ⟨(ad.add (i * 2)).block, (ad.add (i * 2)).off + 1, none⟩ = some (.string l[i].f1) := by
    intro i hi
    obtain ⟨ad, e, h0, h1⟩ := at_T83 h (i : Int) (by omega) (by omega)
    have hr : rd_T83 l (i : Int) = l[i] := by
      unfold rd_T83
      rw [Int.toNat_natCast, List.getD_eq_getElem?_getD, List.getElem?_eq_getElem hi]; rfl
    rw [hr, Int.toNat_natCast] at h0 h1
    exact ⟨ad, e, h0, h1⟩
  obtain ⟨a, ha, h00, _⟩ := hall 0 hp
  have hs : a.spot = none := by
    have h1 := World.cell?_spot h00
    unfold Addr.add at h1
    rw [if_pos (by omega)] at h1
    exact h1
  obtain ⟨b, off, spot⟩ := a
  simp only at hs
  subst hs
  have had : ∀ j, (⟨b, off, none⟩ : Addr).add j = ⟨b, off + j, none⟩ := fun j => by unfold Addr.add; split <;> simp_all
  refine ⟨b, off, ha, ?_, fun i hi => ?_⟩
  · rw [had] at h00; exact block_lt_of_cell h00
  · rw [List.length_map] at hi
    obtain ⟨ad, e, h0, h1⟩ := hall i hi
    rw [ha] at e
    obtain rfl := Option.some.inj e
    rw [had] at h0 h1
    simp only [List.getElem_map]
    exact ⟨h0, h1⟩
theorem crow_of_at {w : World} {A : Option Addr} {l : List SC} (h : CellsAt w A l) (hs : sizedC l = true) : CRow w A l.length (prs l) := by
  refine ⟨by simp [prs], ?_, fun hp => ?_⟩
  · intro c hc
    obtain ⟨x, hx, rfl⟩ := List.mem_map.1 hc
    have := List.all_eq_true.1 hs x hx
    simpa using this
  · obtain ⟨b, off, ha, hb, hc⟩ := h hp
    exact ⟨b, off, ha, hb, fun i hi => by simpa [prs] using hc i (by simpa [prs] using hi)⟩
def z16 : ByteArray := strOfNums (List.replicate 16 0)
theorem z16_list : z16.toList = noughts16 := by rw [ByteArray.toList_eq]; rfl
theorem zero_spelled (s : ByteArray) : (s.toList == z16.toList) = zeroB s := by rw [z16_list, ByteArray.toList_eq]; rfl
theorem u8_info : (Try.prog.info? 5).map (fun i => (i.zero, i.size, i.bytes)) = some (some (.int .u8 0), 1, 1) := by kernel_rfl
set_option maxRecDepth 100000 in
theorem noughts_any (w : World) : Calls Try.prog 39 #[.int .i64 16] w fun e w' => e = .returned (.string z16) ∧ Below w.heap.size w w' := by
  have hmk : ∀ W : World, (Instr.makeSlice 70 (.int .i64 16) (.int .i64 16)).run Try.prog W = .ok (.slice (some ⟨W.heap.size, 0, none⟩) 16 16) (W.alloc (.cells (madeCells #[.int .u8 0] 16) 5)) :=
    print_make 70 5 .u8 1 Try.underlying70 u8_info (by decide) 16 (by omega)
  have hcv := own_string (P := Try.prog) Try.underlying70 Try.underlying5 Try.underlying9 (own_made w 0 5 .u8 16 (Nat.zero_le _) (by omega))
  have HC := Lib.hid hcv
  have HM := Lib.hid hmk
  clear hcv hmk
  go_enter Try.func39, Try.ntmps39
  have hmk := HM.out
  go_wp2_with fail
  rw [HC.out]
  go_wp2
  go_ret
  exact ⟨rfl, (Below.refl _ _).alloc (Nat.le_refl _) _⟩
theorem sub_one (k : Nat) : IntKind.i64.wrap (((k + 1 : Nat) : Int) - 1) = (k : Int) ∨ True := .inr trivial
set_option maxRecDepth 100000 in
set_option maxHeartbeats 1600000 in
theorem rright_any (A : Option Addr) (len cap : Nat) (clusters : Int) (cs : List C) (w : World) (hl : len ≤ maxLen) (hr : CRow w A len cs) :
    Calls Try.prog 37 #[.agg #[.int .i64 clusters, .slice A len cap]] w fun e w' => e = .returned (.bool (rightB clusters cs)) ∧ Below w.heap.size w w' := by
  unfold maxLen at hl
  have HR := Lib.hid hr
  clear hr
  go_enter Try.func37, Try.ntmps37
  go_wp2_with fail
  go_loopw [3] (fun i wr => ∃ (k : Nat) (last : Int), k ≤ len ∧ i = .int .i64 k ∧ Hid (rightFrom clusters (-1) cs = rightFrom clusters last (cs.drop k)) ∧ Hid (k = 0 ∧ last = -1 ∨ 0 < k ∧ 0 ≤ last ∧ (cs[k - 1]?).map (·.1) = some last) ∧ Blk wr w.heap.size 54 #[.int .i64 clusters, .slice A len cap] ∧ Below w.heap.size w wr) (fun i _ => len - (intOf i).toNat)
  case atStart => exact ⟨0, -1, by omega, rfl, Lib.hid (by rw [List.drop_zero]), Lib.hid (.inl ⟨rfl, rfl⟩), Blk.new w _ _, (Below.refl _ _).alloc (Nat.le_refl _) _⟩
  case round =>
    obtain ⟨k, last, hk, rfl, hx, hla, hb, hbel⟩ := hrel
    have e0 := hb.cell 1
    rw [show (#[Value.int IntKind.i64 clusters, .slice A len cap] : Array Value)[1]? = some (.slice A len cap) from rfl] at e0
    by_cases hlt : k < len
    · have hlen := HR.out.1
      obtain ⟨b, off, rfl, hblt, hcell⟩ := HR.out.2.2 (by omega)
      have hkl : k < cs.length := by rw [hlen]; exact hlt
      obtain ⟨hc0, hc1⟩ := hcell k hkl
      have htxs := HR.out.2.1 _ (List.getElem_mem (l := cs) (n := k) hkl)
      obtain ⟨at_, tx, hc⟩ : ∃ a t, cs[k]'hkl = (a, t) := ⟨_, _, rfl⟩
      rw [hc] at hc0 hc1 htxs
      dsimp only at hc0 hc1 htxs
      unfold maxLen at htxs
      have d0 := (hbel.cell (p := ⟨b, off + k * 2, none⟩) hblt).trans hc0
      have d1 := (hbel.cell (p := ⟨b, off + k * 2 + 1, none⟩) hblt).trans hc1
      have HX := Lib.hid hx.out
      have HC := Lib.hid hc
      have hB0 := hb.alloc (.cells #[.int .i64 at_, .string tx] 83)
      have hB1 := Blk.new wr 83 #[.int .i64 at_, .string tx]
      have hL1 := hbel.alloc hbel.size (.cells #[.int .i64 at_, .string tx] 83)
      have e1 := hB0.cell 0
      have e2 := hB1.cell 0
      have e3 := hB1.cell 1
      have e4 := hB0.cell 1
      rw [show (#[Value.int IntKind.i64 clusters, .slice (some ⟨b, off, none⟩) len cap] : Array Value)[0]? = some (.int .i64 clusters) from rfl] at e1
      rw [show (#[Value.int IntKind.i64 clusters, .slice (some ⟨b, off, none⟩) len cap] : Array Value)[1]? = some (.slice (some ⟨b, off, none⟩) len cap) from rfl] at e4
      rw [show (#[Value.int IntKind.i64 at_, .string tx] : Array Value)[0]? = some (.int .i64 at_) from rfl] at e2
      rw [show (#[Value.int IntKind.i64 at_, .string tx] : Array Value)[1]? = some (.string tx) from rfl] at e3
      have hprev : ∀ m (hm : m < cs.length), (wr.alloc (.cells #[.int .i64 at_, .string tx] 83)).cell? ⟨b, off + m * 2, none⟩ = some (.int .i64 (cs[m]'hm).1) := fun m hm => (hL1.cell (p := ⟨b, off + m * 2, none⟩) hblt).trans (hcell m hm).1
      have HP := Lib.hid hprev
      have HB := Lib.hid hB0
      have HL := Lib.hid hL1
      have HLEN := Lib.hid hlen
      have hgs := hL1.size
      have E1 := Lib.hid e1
      have E2 := Lib.hid e2
      have E3 := Lib.hid e3
      have E4 := Lib.hid e4
      clear hcell hc0 hc1 hx hc hb hbel hB0 hB1 hL1 hlen e1 e2 e3 e4 hprev
      go_upto_region 5 with fail
      generalize (wr.alloc (.cells #[.int .i64 at_, .string tx] 83)) = w1 at HB HL hgs E1 E2 E3 E4 HP ⊢
      have e1 := E1.out
      have e2 := E2.out
      have e3 := E3.out
      have e4 := E4.out
      clear d0 d1 e0
      have hgs2 : wr.heap.size < w1.heap.size := by exact E2.out |> block_lt_of_cell
      have hno := fun w => noughts_any w
      have HNO := Lib.hid hno
      clear hno e1 e2 e3 e4
      have f1 := fun p : Behind w1 => p.cell E1.out
      have f2 := fun p : Behind w1 => p.cell E2.out
      have f3 := fun p : Behind w1 => p.cell E3.out
      have f4 := fun p : Behind w1 => p.cell E4.out
      by_cases a0 : at_ < 0
      · have hal : at_ ≤ last := by have hh := hla.out; rcases hh with ⟨_, h⟩ | ⟨_, h, _⟩ <;> omega
        have hv : badC clusters last (at_, tx) = true := by simp [badC, hal]
        have HV := Lib.hid hv
        clear hv
        clear hal
        refine wp_region_behind (by kernel_rfl) (by kernel_rfl) ?_
        repeat (go_big_quiet_step (first | (go_at_call 39; exact behind_of (HNO.out _))))
        refine wpQuiet_nil ?_
        intro w4 hb4
        clear f1 f2 f3 f4
        go_wp2
        go_ret
        exact ⟨ret_bool (by unfold rightB; rw [HX.out, rightFrom_bad clusters last cs _ (by rw [HLEN.out]; exact hlt) _ HC.out HV.out]; rfl), bt HL.out hb4⟩
      · by_cases a2 : clusters ≤ at_
        · skip
          have hv : badC clusters last (at_, tx) = true := by simp [badC, a2]
          have HV := Lib.hid hv
          clear hv
          refine wp_region_behind (by kernel_rfl) (by kernel_rfl) ?_
          repeat (go_big_quiet_step (first | (go_at_call 39; exact behind_of (HNO.out _))))
          refine wpQuiet_nil ?_
          intro w4 hb4
          clear f1 f2 f3 f4
          go_wp2
          go_ret
          exact ⟨ret_bool (by unfold rightB; rw [HX.out, rightFrom_bad clusters last cs _ (by rw [HLEN.out]; exact hlt) _ HC.out HV.out]; rfl), bt HL.out hb4⟩
        · by_cases hk0 : k = 0
          · have hal : ¬ at_ ≤ last := by have hh := hla.out; rcases hh with ⟨_, h⟩ | ⟨h, _⟩ <;> omega
            have hk1 : decide (0 < k) = false := decide_eq_false (by omega)
            by_cases a3 : tx.size = 0
            · have hn0 : (tx.toList == []) = true := by rw [empty_list, decide_eq_true_eq]; exact a3
              have hv : badC clusters last (at_, tx) = false := by simp [badC, hal, a2, a3]
              have HV := Lib.hid hv
              clear hv
              clear a3
              refine wp_region_behind (by kernel_rfl) (by kernel_rfl) ?_
              repeat (go_big_quiet_step (first | (go_at_call 39; exact behind_of (HNO.out _))))
              refine wpQuiet_nil ?_
              intro w4 hb4
              clear f1 f2 f3 f4
              go_wp2
              go_roundw
              case rel => exact ⟨k + 1, at_, by omega, by go_num, Lib.hid (by rw [HX.out, rightFrom_ok clusters last cs _ (by rw [HLEN.out]; exact hlt) _ HC.out HV.out]), Lib.hid (.inr ⟨by omega, by omega, by rw [Nat.add_sub_cancel, List.getElem?_eq_getElem (by rw [HLEN.out]; exact hlt), HC.out]; rfl⟩), HB.out.below hb4 HB.out.lt, bt HL.out hb4⟩
              case measure => simp [intOf]; omega
            · have hn0 : (tx.toList == []) = false := by rw [empty_list, decide_eq_false_iff_not]; exact a3
              by_cases a4 : tx.size = 16
              · have h16 : ((tx.size : Int) != 16) = false := by rw [bne_eq_false_iff_eq]; omega
                have hz := zero_spelled tx
                cases hzb : zeroB tx with
                | true =>
                  have hv : badC clusters last (at_, tx) = true := by simp [badC, hal, a2, a4, hzb]
                  have HV := Lib.hid hv
                  clear hv
                  rw [hzb] at hz
                  clear hzb a3 a4
                  refine wp_region_behind (by kernel_rfl) (by kernel_rfl) ?_
                  repeat (go_big_quiet_step (first | (go_at_call 39; exact behind_of (HNO.out _))))
                  refine wpQuiet_nil ?_
                  intro w4 hb4
                  clear f1 f2 f3 f4
                  go_wp2
                  go_ret
                  exact ⟨ret_bool (by unfold rightB; rw [HX.out, rightFrom_bad clusters last cs _ (by rw [HLEN.out]; exact hlt) _ HC.out HV.out]; rfl), bt HL.out hb4⟩
                | false =>
                  have hv : badC clusters last (at_, tx) = false := by simp [badC, hal, a2, a4, hzb]
                  have HV := Lib.hid hv
                  clear hv
                  rw [hzb] at hz
                  clear hzb a3 a4
                  refine wp_region_behind (by kernel_rfl) (by kernel_rfl) ?_
                  repeat (go_big_quiet_step (first | (go_at_call 39; exact behind_of (HNO.out _))))
                  refine wpQuiet_nil ?_
                  intro w4 hb4
                  clear f1 f2 f3 f4
                  go_wp2
                  go_roundw
                  case rel => exact ⟨k + 1, at_, by omega, by go_num, Lib.hid (by rw [HX.out, rightFrom_ok clusters last cs _ (by rw [HLEN.out]; exact hlt) _ HC.out HV.out]), Lib.hid (.inr ⟨by omega, by omega, by rw [Nat.add_sub_cancel, List.getElem?_eq_getElem (by rw [HLEN.out]; exact hlt), HC.out]; rfl⟩), HB.out.below hb4 HB.out.lt, bt HL.out hb4⟩
                  case measure => simp [intOf]; omega
              · have h16 : ((tx.size : Int) != 16) = true := by rw [bne_iff_ne]; omega
                have hv : badC clusters last (at_, tx) = true := by simp [badC, a3, a4]
                have HV := Lib.hid hv
                clear hv
                clear a3 a4
                refine wp_region_behind (by kernel_rfl) (by kernel_rfl) ?_
                repeat (go_big_quiet_step (first | (go_at_call 39; exact behind_of (HNO.out _))))
                refine wpQuiet_nil ?_
                intro w4 hb4
                clear f1 f2 f3 f4
                go_wp2
                go_ret
                exact ⟨ret_bool (by unfold rightB; rw [HX.out, rightFrom_bad clusters last cs _ (by rw [HLEN.out]; exact hlt) _ HC.out HV.out]; rfl), bt HL.out hb4⟩
          · obtain ⟨m, rfl⟩ : ∃ m, k = m + 1 := ⟨k - 1, by omega⟩
            obtain ⟨h9, hlast⟩ : 0 ≤ last ∧ (cs[m + 1 - 1]?).map (·.1) = some last := by have hh := hla.out; rcases hh with ⟨h, _⟩ | ⟨_, h⟩; (· omega); exact h
            rw [Nat.add_sub_cancel, List.getElem?_eq_getElem (by rw [HLEN.out]; omega)] at hlast
            have f5 := fun p : Behind w1 => p.cell (HP.out m (by rw [HLEN.out]; omega))
            rw [show (cs[m]'(by rw [HLEN.out]; omega)).1 = last from Option.some.inj hlast] at f5
            clear hlast
            have hk1 : decide (0 < m + 1) = true := decide_eq_true (by omega)
            have hm1 : IntKind.i64.wrap ((m : Int) + 1 - 1) = (m : Int) := by rw [IntKind.wrap_i64]; omega
            by_cases hal : at_ ≤ last
            · skip
              have hv : badC clusters last (at_, tx) = true := by simp [badC, hal]
              have HV := Lib.hid hv
              clear hv
              have hb5 := hal
              refine wp_region_behind (by kernel_rfl) (by kernel_rfl) ?_
              repeat (go_big_quiet_step (first | (go_at_call 39; exact behind_of (HNO.out _))))
              refine wpQuiet_nil ?_
              intro w4 hb4
              clear f1 f2 f3 f4
              go_wp2
              go_ret
              exact ⟨ret_bool (by unfold rightB; rw [HX.out, rightFrom_bad clusters last cs _ (by rw [HLEN.out]; exact hlt) _ HC.out HV.out]; rfl), bt HL.out hb4⟩
            · skip
              by_cases a3 : tx.size = 0
              · have hn0 : (tx.toList == []) = true := by rw [empty_list, decide_eq_true_eq]; exact a3
                have hv : badC clusters last (at_, tx) = false := by simp [badC, hal, a2, a3]
                have HV := Lib.hid hv
                clear hv
                clear a3
                refine wp_region_behind (by kernel_rfl) (by kernel_rfl) ?_
                repeat (go_big_quiet_step (first | (go_at_call 39; exact behind_of (HNO.out _))))
                refine wpQuiet_nil ?_
                intro w4 hb4
                clear f1 f2 f3 f4
                go_wp2
                go_roundw
                case rel => exact ⟨(m + 1) + 1, at_, by omega, by go_num, Lib.hid (by rw [HX.out, rightFrom_ok clusters last cs _ (by rw [HLEN.out]; exact hlt) _ HC.out HV.out]), Lib.hid (.inr ⟨by omega, by omega, by rw [Nat.add_sub_cancel, List.getElem?_eq_getElem (by rw [HLEN.out]; exact hlt), HC.out]; rfl⟩), HB.out.below hb4 HB.out.lt, bt HL.out hb4⟩
                case measure => simp [intOf]; omega
              · have hn0 : (tx.toList == []) = false := by rw [empty_list, decide_eq_false_iff_not]; exact a3
                by_cases a4 : tx.size = 16
                · have h16 : ((tx.size : Int) != 16) = false := by rw [bne_eq_false_iff_eq]; omega
                  have hz := zero_spelled tx
                  cases hzb : zeroB tx with
                  | true =>
                    have hv : badC clusters last (at_, tx) = true := by simp [badC, hal, a2, a4, hzb]
                    have HV := Lib.hid hv
                    clear hv
                    rw [hzb] at hz
                    clear hzb a3 a4
                    refine wp_region_behind (by kernel_rfl) (by kernel_rfl) ?_
                    repeat (go_big_quiet_step (first | (go_at_call 39; exact behind_of (HNO.out _))))
                    refine wpQuiet_nil ?_
                    intro w4 hb4
                    clear f1 f2 f3 f4
                    go_wp2
                    go_ret
                    exact ⟨ret_bool (by unfold rightB; rw [HX.out, rightFrom_bad clusters last cs _ (by rw [HLEN.out]; exact hlt) _ HC.out HV.out]; rfl), bt HL.out hb4⟩
                  | false =>
                    have hv : badC clusters last (at_, tx) = false := by simp [badC, hal, a2, a4, hzb]
                    have HV := Lib.hid hv
                    clear hv
                    rw [hzb] at hz
                    clear hzb a3 a4
                    refine wp_region_behind (by kernel_rfl) (by kernel_rfl) ?_
                    repeat (go_big_quiet_step (first | (go_at_call 39; exact behind_of (HNO.out _))))
                    refine wpQuiet_nil ?_
                    intro w4 hb4
                    clear f1 f2 f3 f4
                    go_wp2
                    go_roundw
                    case rel => exact ⟨(m + 1) + 1, at_, by omega, by go_num, Lib.hid (by rw [HX.out, rightFrom_ok clusters last cs _ (by rw [HLEN.out]; exact hlt) _ HC.out HV.out]), Lib.hid (.inr ⟨by omega, by omega, by rw [Nat.add_sub_cancel, List.getElem?_eq_getElem (by rw [HLEN.out]; exact hlt), HC.out]; rfl⟩), HB.out.below hb4 HB.out.lt, bt HL.out hb4⟩
                    case measure => simp [intOf]; omega
                · have h16 : ((tx.size : Int) != 16) = true := by rw [bne_iff_ne]; omega
                  have hv : badC clusters last (at_, tx) = true := by simp [badC, a3, a4]
                  have HV := Lib.hid hv
                  clear hv
                  clear a3 a4
                  refine wp_region_behind (by kernel_rfl) (by kernel_rfl) ?_
                  repeat (go_big_quiet_step (first | (go_at_call 39; exact behind_of (HNO.out _))))
                  refine wpQuiet_nil ?_
                  intro w4 hb4
                  clear f1 f2 f3 f4
                  go_wp2
                  go_ret
                  exact ⟨ret_bool (by unfold rightB; rw [HX.out, rightFrom_bad clusters last cs _ (by rw [HLEN.out]; exact hlt) _ HC.out HV.out]; rfl), bt HL.out hb4⟩
    · obtain rfl : k = len := by omega
      have e1 := hb.cell 0
      rw [show (#[Value.int IntKind.i64 clusters, .slice A k cap] : Array Value)[0]? = some (.int .i64 clusters) from rfl] at e1
      have HX := Lib.hid hx.out
      have HL := Lib.hid hbel
      have hend : rightB clusters cs = (decide (1 ≤ clusters) && decide (clusters ≤ 64)) := by
        unfold rightB
        rw [HX.out, List.drop_of_length_le (by have := HR.out.1; omega)]
        unfold newR
        by_cases h1 : clusters < 1
        · rw [if_pos (.inl h1)]; have : ¬ 1 ≤ clusters := by omega
          simp [rightFrom, this]
        · by_cases h2 : 64 < clusters
          · rw [if_pos (.inr h2)]; have : ¬ clusters ≤ 64 := by omega
            simp [rightFrom, this]
          · rw [if_neg (by omega)]; have : 1 ≤ clusters := by omega
            have : clusters ≤ 64 := by omega
            simp [rightFrom, *]
      have HEND := Lib.hid hend
      clear hx hb hbel hend hla
      by_cases h1 : 1 ≤ clusters
      · go_wp2
        go_ret
        exact ⟨ret_bool (by rw [HEND.out, decide_eq_true h1]; rfl), HL.out⟩
      · go_wp2
        go_ret
        exact ⟨ret_bool (by rw [HEND.out, decide_eq_false (by omega)]; rfl), HL.out⟩
def rootcellarref9_Right.f (a0_0 : Int) (l0_1 : List SR) : Option (Bool) := if l0_1.length ≤ maxLen ∧ sizedC (l0_1.map toC) = true then some (rightB a0_0 (prs (l0_1.map toC))) else none
theorem rootcellarref9_Right.calls (a0_0 : Int) (A0_1 : Option Addr) (c0_1 : Nat) (l0_1 : List SR) (r : Bool) (w : World) (hr0_1 : Kd.C kR w A0_1 l0_1.length l0_1) (hc0_1 : l0_1.length ≤ c0_1) (h : rootcellarref9_Right.f a0_0 l0_1 = some r) :
    Calls Try.prog 37 #[.agg #[.int .i64 a0_0, .slice A0_1 l0_1.length c0_1]] w fun e w' => e = .returned (.bool r) ∧ Below w.heap.size w w' := by
  unfold rootcellarref9_Right.f at h
  split at h
  · rename_i hh
    obtain rfl := Option.some.inj h
    have hcr := crow_of_at (cellsAt_of_R hr0_1) hh.2
    rw [List.length_map] at hcr
    exact rright_any A0_1 l0_1.length c0_1 a0_0 (prs (l0_1.map toC)) w hh.1 hcr
  · cases h
end Go.Proofs.Ytbeloaccgmgocaa.Pr
