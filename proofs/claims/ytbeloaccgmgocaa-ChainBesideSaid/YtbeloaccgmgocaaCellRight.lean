/- The contract of cell.Right. Conditions: the slice's cells lie; lengths are those of slices. -/
import Derived.Test.YtbeloaccgmgocaaCellZero
import Derived.BigGuardPart
import Derived.Deep.Cut
namespace Go.Proofs.Ytbeloaccgmgocaa
open Go.RowKit
open Go.BigFrame
set_option linter.unusedVariables false
abbrev C := Int × ByteArray
/-- what a walk is told of a slice of cells -/
def CRow (w : World) (A : Option Addr) (len : Nat) (cs : List C) : Prop :=
  cs.length = len ∧ (∀ c ∈ cs, c.2.size ≤ maxLen) ∧ (0 < len → ∃ b off, A = some ⟨b, off, none⟩ ∧ b < w.heap.size ∧ ∀ i (h : i < cs.length), w.cell? ⟨b, off + i * 2, none⟩ = some (.int .i64 cs[i].1) ∧ w.cell? ⟨b, off + i * 2 + 1, none⟩ = some (.string cs[i].2))
theorem CRow.below {w w' : World} {A : Option Addr} {len : Nat} {cs : List C} (h : CRow w A len cs) (hb : Below w.heap.size w w') : CRow w' A len cs :=
  ⟨h.1, h.2.1, fun hp => by
    obtain ⟨b, off, ha, hlt, hc⟩ := h.2.2 hp
    exact ⟨b, off, ha, Nat.lt_of_lt_of_le hlt hb.size, fun i hi => ⟨(hb.cell (p := ⟨b, off + i * 2, none⟩) hlt).trans (hc i hi).1, (hb.cell (p := ⟨b, off + i * 2 + 1, none⟩) hlt).trans (hc i hi).2⟩⟩⟩
def badC (clusters last : Int) (c : C) : Bool := decide (c.1 ≤ last) || decide (clusters ≤ c.1) || (decide (c.2.size ≠ 0) && (decide (c.2.size ≠ 16) || zeroB c.2))
def rightFrom (clusters last : Int) : List C → Bool
  | [] => true
  | c :: r => if badC clusters last c then false else rightFrom clusters c.1 r
def rightB (clusters : Int) (cs : List C) : Bool := rightFrom clusters (-1) cs && (newR clusters).2 == 0
theorem rightFrom_bad (clusters last : Int) (cs : List C) (k : Nat) (hk : k < cs.length) (c : C) (hc : cs[k] = c) (h : badC clusters last c = true) : rightFrom clusters last (cs.drop k) = false := by
  rw [List.drop_eq_getElem_cons hk, hc, rightFrom, if_pos h]
theorem rightFrom_ok (clusters last : Int) (cs : List C) (k : Nat) (hk : k < cs.length) (c : C) (hc : cs[k] = c) (h : badC clusters last c = false) : rightFrom clusters last (cs.drop k) = rightFrom clusters c.1 (cs.drop (k + 1)) := by
  rw [List.drop_eq_getElem_cons hk, hc, rightFrom, if_neg (by rw [h]; decide)]
theorem empty_list (s : ByteArray) : (s.toList == []) = decide (s.size = 0) := by
  rw [ByteArray.toList_eq]
  obtain ⟨⟨l⟩⟩ := s
  cases l with
  | nil => rfl
  | cons a l => simp [ByteArray.size]
set_option maxRecDepth 100000 in
set_option maxHeartbeats 800000 in
theorem cright_any (A : Option Addr) (len cap : Nat) (clusters : Int) (cs : List C) (w : World) (hl : len ≤ maxLen) (hr : CRow w A len cs) :
    Calls Try.prog 40 #[.agg #[.int .i64 clusters, .slice A len cap]] w fun e w' => e = .returned (.bool (rightB clusters cs)) ∧ Below w.heap.size w w' := by
  unfold maxLen at hl
  have HR := Lib.hid hr
  clear hr
  go_enter Try.func40, Try.ntmps40
  go_wp2_with fail
  go_loopw [3, 11] (fun la i wr => ∃ (k : Nat) (last : Int), k ≤ len ∧ i = .int .i64 k ∧ la = .int .i64 last ∧ Hid (rightFrom clusters (-1) cs = rightFrom clusters last (cs.drop k)) ∧ Blk wr w.heap.size 26 #[.int .i64 clusters, .slice A len cap] ∧ Below w.heap.size w wr) (fun _ i _ => len - (intOf i).toNat)
  case atStart => exact ⟨0, -1, by omega, rfl, rfl, Lib.hid (by rw [List.drop_zero]), Blk.new w _ _, (Below.refl _ _).alloc (Nat.le_refl _) _⟩
  case round =>
    obtain ⟨k, last, hk, rfl, rfl, hx, hb, hbel⟩ := hrel
    by_cases hlt : k < len
    · have hlen := HR.out.1
      obtain ⟨b, off, rfl, hblt, hcell⟩ := HR.out.2.2 (by omega)
      have hkl : k < cs.length := by rw [hlen]; exact hlt
      obtain ⟨hc0, hc1⟩ := hcell k hkl
      have htxs := HR.out.2.1 _ (List.getElem_mem (l := cs) (n := k) hkl)
      obtain ⟨at_, tx, hc⟩ : ∃ a t, cs[k]'hkl = (a, t) := ⟨_, _, rfl⟩
      rw [hc] at hc0 hc1 htxs
      dsimp only at hc0 hc1 htxs
      unfold maxLen at htxs
      have d0 := (hbel.cell (p := ⟨b, off + k * 2, none⟩) hblt).trans hc0
      have d1 := (hbel.cell (p := ⟨b, off + k * 2 + 1, none⟩) hblt).trans hc1
      have HX := Lib.hid hx.out
      have HC := Lib.hid hc
      have hB0 := hb.alloc (.cells #[.int .i64 at_, .string tx] 67)
      have hB1 := Blk.new wr 67 #[.int .i64 at_, .string tx]
      have hL1 := hbel.alloc hbel.size (.cells #[.int .i64 at_, .string tx] 67)
      have e1 := hB0.cell 0
      have e2 := hB1.cell 0
      have e3 := hB1.cell 1
      rw [show (#[Value.int IntKind.i64 clusters, .slice (some ⟨b, off, none⟩) len cap] : Array Value)[0]? = some (.int .i64 clusters) from rfl] at e1
      rw [show (#[Value.int IntKind.i64 at_, .string tx] : Array Value)[0]? = some (.int .i64 at_) from rfl] at e2
      rw [show (#[Value.int IntKind.i64 at_, .string tx] : Array Value)[1]? = some (.string tx) from rfl] at e3
      have HB := Lib.hid hB0
      have HL := Lib.hid hL1
      have HLEN := Lib.hid hlen
      have hgs := hL1.size
      have E1 := Lib.hid e1
      have E2 := Lib.hid e2
      have E3 := Lib.hid e3
      clear hcell hc0 hc1 hx hc hb hbel hB0 hB1 hL1 hlen e1 e2 e3
      go_upto_region 5 with fail
      generalize (wr.alloc (.cells #[.int .i64 at_, .string tx] 67)) = w1 at HB HL hgs E1 E2 E3 ⊢
      have e1 := E1.out
      have e2 := E2.out
      have e3 := E3.out
      clear d0 d1
      have hgs2 : wr.heap.size < w1.heap.size := by exact E2.out |> block_lt_of_cell
      by_cases a1 : at_ ≤ last
      · skip
        go_wp2
        go_ret
        exact ⟨ret_bool (by unfold rightB; rw [HX.out, rightFrom_bad clusters last cs k (by rw [HLEN.out]; exact hlt) _ HC.out (by simp [badC, a1])]; rfl), HL.out⟩
      · by_cases a2 : clusters ≤ at_
        · skip
          go_wp2
          go_ret
          exact ⟨ret_bool (by unfold rightB; rw [HX.out, rightFrom_bad clusters last cs k (by rw [HLEN.out]; exact hlt) _ HC.out (by simp [badC, a2])]; rfl), HL.out⟩
        · by_cases a3 : tx.size = 0
          · have hn0 : (tx.toList == []) = true := by rw [empty_list, decide_eq_true_eq]; exact a3
            have A3 := Lib.hid a3
            clear a3
            go_wp2
            go_roundw
            case rel =>
              exact ⟨k + 1, at_, by omega, by go_num, rfl, Lib.hid (by rw [HX.out, rightFrom_ok clusters last cs k (by rw [HLEN.out]; exact hlt) _ HC.out (by simp [badC, a1, a2, A3.out])]), HB.out, HL.out⟩
            case measure => simp [intOf]; omega
          · have hn0 : (tx.toList == []) = false := by rw [empty_list, decide_eq_false_iff_not]; exact a3
            by_cases a4 : tx.size = 16
            · have h16 : ((tx.size : Int) != 16) = false := by rw [bne_eq_false_iff_eq]; omega
              have A4 := Lib.hid a4
              cases hzb : zeroB tx with
              | true =>
                have hz := fun w => zero_any tx A4.out w
                rw [hzb] at hz
                have HZ := Lib.hid hz
                have HZB := Lib.hid hzb
                clear hz a4 hzb
                go_wp2_with fail
                refine (HZ.out _).mono ?_
                rintro e w2 ⟨rfl, hb2⟩
                go_wp2
                go_ret
                exact ⟨ret_bool (by unfold rightB; rw [HX.out, rightFrom_bad clusters last cs k (by rw [HLEN.out]; exact hlt) _ HC.out (by simp [badC, a3, HZB.out])]; rfl), HL.out.trans (hb2.mono HL.out.size)⟩
              | false =>
                have hz := fun w => zero_any tx A4.out w
                rw [hzb] at hz
                have HZ := Lib.hid hz
                have HZB := Lib.hid hzb
                clear hz a4 hzb
                go_wp2_with fail
                refine (HZ.out _).mono ?_
                rintro e w2 ⟨rfl, hb2⟩
                have e2 := (hb2.cell (p := ⟨wr.heap.size, 0, none⟩) hgs2).trans E2.out
                go_wp2
                go_roundw
                case rel =>
                  exact ⟨k + 1, at_, by omega, by go_num, rfl, Lib.hid (by rw [HX.out, rightFrom_ok clusters last cs k (by rw [HLEN.out]; exact hlt) _ HC.out (by simp [badC, a1, a2, A4.out, HZB.out])]), HB.out.below hb2 HB.out.lt, HL.out.trans (hb2.mono HL.out.size)⟩
                case measure => simp [intOf]; omega
            · have h16 : ((tx.size : Int) != 16) = true := by rw [bne_iff_ne]; omega
              go_wp2
              go_ret
              exact ⟨ret_bool (by unfold rightB; rw [HX.out, rightFrom_bad clusters last cs k (by rw [HLEN.out]; exact hlt) _ HC.out (by simp [badC, a3, a4])]; rfl), HL.out⟩
    · obtain rfl : k = len := by omega
      have e1 := hb.cell 0
      rw [show (#[Value.int IntKind.i64 clusters, .slice A k cap] : Array Value)[0]? = some (.int .i64 clusters) from rfl] at e1
      have HX := Lib.hid hx.out
      have HL := Lib.hid hbel
      clear hx hb hbel
      go_wp2_with fail
      refine (new_any clusters _).mono ?_
      rintro e w2 ⟨rfl, hb2⟩
      go_wp2
      go_ret
      refine ⟨ret_bool ?_, (HL.out.trans (hb2.mono HL.out.size)).alloc (Nat.le_trans HL.out.size hb2.size) _⟩
      unfold rightB
      rw [HX.out, List.drop_of_length_le (by have := HR.out.1; omega)]
      simp [rightFrom]
end Go.Proofs.Ytbeloaccgmgocaa
