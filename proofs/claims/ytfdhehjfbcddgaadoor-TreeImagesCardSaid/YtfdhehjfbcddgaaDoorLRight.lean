/- label.Count, label.Valid, label.Right: what is right for a name. Conditions: the text is no longer than a slice can be; the tables of unicode/utf8 lie in memory. -/
import Derived.Test.YtfdhehjfbcddgaaDoorTBase
import Derived.Ground.NamesProg
import Derived.WalkKit
import Derived.WalkMore
import Derived.Below
import Derived.Shelf.Lay
import Derived.Shelf.Unicode.ValidAny
import Derived.Laws.RangeAny
namespace Go.Proofs
open Go.RowKit Go.Shelf Go.Lib
shelf_lay Lays.n196 Nm 196 at Tryd as Tryd.laysValid
namespace YtfdhehjfbcddgaaDoor.Pr
open Go.Proofs.YtfdhehjfbcddgaaDoorW.PrintWords Go.Proofs.YtfdhehjfbcddgaaDoorW.PrintLast Go.Proofs.YtfdhehjfbcddgaaDoor
set_option linter.unusedVariables false
def Tabs (w : World) : Prop := Lib.Utf8Tabs (Tryd.laysValid_ren.g 3) (Tryd.laysValid_ren.g 4) w
theorem Tabs.below {w w' : World} (h : Tabs w) (hb : Below w.heap.size w w') : Tabs w' := Utf8Tabs_below h hb
theorem dec_pos (s : ByteArray) (pos : Nat) (h : pos < s.size) : 1 ≤ (Utf8.decode s pos).2 := by
  by_cases ha : (s[pos]'h).toNat < 128
  · rw [decode_ascii s pos h ha]; exact Nat.le_refl _
  · exact (decode_high s pos h (by omega)).2
/-- the runes of a text from a place on -/
def runesF (s : ByteArray) : Nat → Nat → List Nat
  | 0, _ => []
  | k + 1, pos => if pos < s.size then (Utf8.decode s pos).1 :: runesF s k (pos + (Utf8.decode s pos).2) else []
def runes (s : ByteArray) : List Nat := runesF s (s.size + 1) 0
theorem runesF_on (s : ByteArray) (k pos : Nat) (hk : s.size + 1 ≤ k + pos) (h : pos < s.size) : ∃ k', k = k' + 1 ∧ s.size + 1 ≤ k' + (pos + (Utf8.decode s pos).2) ∧ runesF s k pos = (Utf8.decode s pos).1 :: runesF s k' (pos + (Utf8.decode s pos).2) := by
  obtain ⟨k', rfl⟩ : ∃ k', k = k' + 1 := ⟨k - 1, by omega⟩
  have := dec_pos s pos h
  refine ⟨k', rfl, by omega, ?_⟩
  rw [runesF, if_pos h]
theorem runesF_end (s : ByteArray) (k pos : Nat) (h : ¬ pos < s.size) : runesF s k pos = [] := by
  cases k with
  | zero => rfl
  | succ k => rw [runesF, if_neg h]
theorem below_iter (w : World) (s : ByteArray) (pos : Nat) : Below w.heap.size w (w.iter s pos) := (Below.refl _ _).alloc (Nat.le_refl _) _
set_option maxRecDepth 100000 in
theorem valid_any (s : ByteArray) (w : World) (hs : s.size ≤ 9223372036854775807) (hT : Tabs w) :
    Calls Tryd.prog 63 #[.string s] w fun e w' => e = .returned (.bool (Lib.validD s.data.toList)) ∧ Below w.heap.size w w' := by
  have cV : Calls Tryd.prog 81 #[.string s] w _ := Any.utf8_ValidString Tryd.laysValid s w hs hT
  generalize Lib.validD s.data.toList = V at cV ⊢
  go_enter Tryd.func63, Tryd.ntmps63
  go_wp2_with fail
  refine cV.mono ?_
  rintro e w' ⟨rfl, hb⟩
  go_wp2_with fail
  go_ret
  exact ⟨rfl, hb⟩
set_option maxRecDepth 100000 in
theorem count_any (s : ByteArray) (w : World) (hs : s.size ≤ 1000000) :
    Calls Tryd.prog 64 #[.string s] w fun e w' => e = .returned (.int .i64 ((runes s).length : Int)) ∧ Below w.heap.size w w' := by
  have hst := Tryd.underlying9
  go_enter Tryd.func64, Tryd.ntmps64
  go_wp2_with fail
  go_loopw [3] (fun v3 wr => ∃ (pos k m : Nat), wr = w.iter s pos ∧ v3 = .int .i64 (m : Int) ∧ m ≤ pos ∧ Hid (s.size + 1 ≤ k + pos ∧ m + (runesF s k pos).length = (runes s).length)) (fun _ wr => s.size - wr.iterPos w.heap.size)
  case atStart => exact ⟨0, s.size + 1, 0, rfl, rfl, Nat.le_refl _, Lib.hid ⟨by omega, by unfold runes; omega⟩⟩
  case round =>
    obtain ⟨pos, k, m, rfl, rfl, hm, hh⟩ := hrel
    by_cases hp : pos < s.size
    · obtain ⟨k', rfl, h1, h2⟩ := runesF_on s k pos hh.out.1 hp
      have hl := hh.out.2
      rw [h2, List.length_cons] at hl
      have hnx := fun ty => run_next_any (P := Tryd.prog) w s pos ty hp
      have hd := dec_pos s pos hp
      have HH := Lib.hid (show s.size + 1 ≤ k' + (pos + (Utf8.decode s pos).2) ∧ m + ((runesF s k' (pos + (Utf8.decode s pos).2)).length + 1) = (runes s).length from ⟨h1, hl⟩)
      generalize Utf8.decode s pos = d at hnx hd HH
      have hm1 : m < 1000001 := by omega
      clear hh h1 h2 hl
      go_wp2
      go_roundw
      case rel => exact ⟨pos + d.2, k', m + 1, rfl, by go_num, by omega, Lib.hid ⟨HH.out.1, by have := HH.out.2; omega⟩⟩
      case measure => simp; omega
    · have hnx := fun ty => run_next_end (P := Tryd.prog) w s pos ty hp
      have hl := hh.out.2
      rw [runesF_end s k pos hp] at hl
      go_wp2
      go_ret
      exact ⟨ret_int (by rw [← hl]; simp), below_iter w s pos⟩
/-- is a rune none that a name may have? -/
def badR (r : Nat) : Bool := decide ((r : Int) < 32) || decide ((r : Int) = 127)
/-- is a text right for a name? -/
def labelB (s : ByteArray) : Bool := !((runes s).any badR) && (Lib.validD s.data.toList && (decide (0 < s.size) && (decide (((runes s).length : Int) ≤ 24) && (decide (¬ byA s 0 = 32) && decide (¬ byA s ((s.size : Int) - 1) = 32)))))
set_option maxRecDepth 100000 in
set_option maxHeartbeats 4000000 in
theorem right_any (s : ByteArray) (w : World) (hs : s.size ≤ 1000000) (hT : Tabs w) :
    Calls Tryd.prog 36 #[.string s] w fun e w' => e = .returned (.bool (labelB s)) ∧ Below w.heap.size w w' := by
  have hst := Tryd.underlying9
  have hbi := fun pos => below_iter w s pos
  have hv := fun pos => valid_any s (w.iter s pos) (by omega) (hT.below (hbi pos))
  obtain ⟨V, hVV⟩ : ∃ V, Lib.validD s.data.toList = V := ⟨_, rfl⟩
  obtain ⟨R, hRR⟩ : ∃ R : Nat, (runes s).length = R := ⟨_, rfl⟩
  rw [hVV] at hv
  have HV := Lib.hid hv
  have HVV := Lib.hid hVV
  have hcn := fun w1 => count_any s w1 hs
  rw [hRR] at hcn
  have HCN := Lib.hid hcn
  have HRR := Lib.hid hRR
  have HAT := Lib.hid (byA_at s)
  have HBI := Lib.hid hbi
  clear hv hcn hT hbi hVV hRR
  go_enter Tryd.func36, Tryd.ntmps36
  go_wp2_with fail
  go_loopw [] (fun wr => ∃ (pos k : Nat), wr = w.iter s pos ∧ Hid (s.size + 1 ≤ k + pos ∧ (runes s).any badR = (runesF s k pos).any badR)) (fun wr => s.size - wr.iterPos w.heap.size)
  case atStart => exact ⟨0, s.size + 1, rfl, Lib.hid ⟨by omega, rfl⟩⟩
  case round =>
    obtain ⟨pos, k, rfl, hh⟩ := hrel
    by_cases hp : pos < s.size
    · obtain ⟨k', rfl, h1, h2⟩ := runesF_on s k pos hh.out.1 hp
      have hl := hh.out.2
      rw [h2, List.any_cons] at hl
      have hnx := fun ty => run_next_any (P := Tryd.prog) w s pos ty hp
      have hd := dec_pos s pos hp
      have hdl := decode_le s pos
      have HH := Lib.hid (show s.size + 1 ≤ k' + (pos + (Utf8.decode s pos).2) ∧ (runes s).any badR = (badR (Utf8.decode s pos).1 || (runesF s k' (pos + (Utf8.decode s pos).2)).any badR) from ⟨h1, hl⟩)
      generalize Utf8.decode s pos = d at hnx hd hdl HH
      clear hh h1 h2 hl
      by_cases h32 : (d.1 : Int) < 32
      · have hbad : badR d.1 = true := by unfold badR; rw [decide_eq_true h32]; rfl
        go_wp2_with fail
        go_ret
        refine ⟨ret_bool ?_, HBI.out _⟩
        unfold labelB
        rw [HH.out.2, hbad]; rfl
      · by_cases h127 : (d.1 : Int) = 127
        · have hbad : badR d.1 = true := by unfold badR; rw [decide_eq_true h127, Bool.or_true]
          go_wp2_with fail
          go_ret
          refine ⟨ret_bool ?_, HBI.out _⟩
          unfold labelB
          rw [HH.out.2, hbad]; rfl
        · have hbad : badR d.1 = false := by unfold badR; rw [decide_eq_false h32, decide_eq_false h127]; rfl
          go_wp2_with fail
          go_roundw
          case rel => exact ⟨pos + d.2, k', rfl, Lib.hid ⟨HH.out.1, by rw [HH.out.2, hbad, Bool.false_or]⟩⟩
          case measure => simp; omega
    · have hnx := fun ty => run_next_end (P := Tryd.prog) w s pos ty hp
      have hl := hh.out.2
      rw [runesF_end s k pos hp] at hl
      have hlb : labelB s = (V && (decide (0 < s.size) && (decide ((R : Int) ≤ 24) && (decide (¬ byA s 0 = 32) && decide (¬ byA s ((s.size : Int) - 1) = 32))))) := by
        unfold labelB
        rw [hl, HVV.out, HRR.out]; rfl
      have HLB := Lib.hid hlb
      clear hlb hl hh
      go_wp2_with fail
      refine (HV.out pos).mono ?_
      rintro e w1 ⟨rfl, hb1⟩
      have HB1 := Lib.hid ((HBI.out pos).trans (hb1.mono (HBI.out pos).size))
      clear hb1 hnx HV
      cases V with
      | false =>
        go_wp2_with fail
        go_ret
        exact ⟨ret_bool (by rw [HLB.out]; rfl), HB1.out⟩
      | true =>
        have hte : s.toList.length = s.size := by
          rw [ByteArray.toList_eq, Array.length_toList]; rfl
        by_cases h0 : 0 < s.size
        · have hne : s.toList.isEmpty = false := by
            cases hh : s.toList with
            | nil => rw [hh, List.length_nil] at hte; omega
            | cons a b => rfl
          clear hte
          go_wp2_with fail
          refine (HCN.out _).mono ?_
          rintro e w2 ⟨rfl, hb2⟩
          have HB2 := Lib.hid (HB1.out.trans (hb2.mono HB1.out.size))
          clear hb2 HCN HB1
          by_cases h24 : (R : Int) ≤ 24
          · have h0i : (0 : Int) < (s.size : Int) := by omega
            have a0 := HAT.out 0 (by simpa using h0)
            have a1 := HAT.out ((s.size : Int) - 1) (by omega)
            have e1 : ((s.size : Int) - 1).toNat = s.size - 1 := by omega
            simp only [Int.toNat_zero] at a0
            go_wp2_with fail
            all_goals go_ret
            · rename_i h32 _
              refine ⟨ret_bool ?_, HB2.out⟩
              simp only [e1] at a1
              rw [HLB.out, decide_eq_true h0, decide_eq_true h24, decide_eq_true h32, a1, decide_not, Bool.true_and, Bool.true_and, Bool.true_and, Bool.true_and]
              rfl
            · rename_i h32
              exact ⟨ret_bool (by rw [HLB.out, h32]; simp), HB2.out⟩
          · go_wp2_with fail
            go_ret
            exact ⟨ret_bool (by rw [HLB.out, decide_eq_false (p := (R : Int) ≤ 24) (by omega)]; simp), HB2.out⟩
        · have hne : s.toList.isEmpty = true := by
            cases hh : s.toList with
            | nil => rfl
            | cons a b => rw [hh, List.length_cons] at hte; omega
          clear hte
          go_wp2_with fail
          go_ret
          exact ⟨ret_bool (by rw [HLB.out, decide_eq_false h0]; rfl), HB1.out⟩
end YtfdhehjfbcddgaaDoor.Pr
end Go.Proofs
