/- The contract of strings.Repeat at a nought: so many noughts. Condition: two at least, at most 8192. -/
import Derived.Test.YtbeloaccgmgocaaBuild2
import Derived.Test.YtbeloaccgmgocaaHBase
import Derived.Lib.Hide
import Derived.Deep.LoopGhost
import Derived.Deep.DeepCutAuto
import Derived.Deep.CutBlock
import Derived.Test.YtbeloaccgmgocaaMul
import Derived.Lib.RepeatB
namespace Go.Proofs.Ytbeloaccgmgocaa
open Go.Shelf Go.RowKit
set_option linter.unusedVariables false
theorem run_min3 {P : Program} {w : World} (ts : Array TypeId) (t : TypeId) (k k' k'' : IntKind) (x y z : Int) :
    (Builtin.min_ ts t #[.int k x, .int k' y, .int k'' z]).run P w = .ok (.int k (if z < (if y < x then y else x) then z else (if y < x then y else x))) w := by
  simp [Builtin.min_, Builtin.min2]
def nts (n : Nat) : List UInt8 := List.replicate n 0
set_option maxHeartbeats 1600000 in
set_option maxRecDepth 100000 in
theorem mul_one (c : Nat) (hc : c ≤ 8192) (w : World) :
    Calls Try.prog 55 #[.int .u64 1, .int .u64 c] w fun e w' => e = .returned (.tuple #[.int .u64 0, .int .u64 c]) ∧ w = w' := by
  have h := bits_Mul64 1 c (by omega) (by omega) w
  rw [Nat.one_mul, Nat.div_eq_of_lt (by omega), Nat.mod_eq_of_lt (by omega)] at h
  have H := Lib.hid h
  clear h
  go_enter Try.func55, Try.ntmps55
  go_wp2_with fail
  refine H.out.mono ?_
  rintro e w' ⟨rfl, hw⟩
  rw [hw]
  clear hw
  go_wp2
  go_ret2
  exact ⟨rfl, rfl⟩
set_option maxHeartbeats 1600000 in
set_option maxRecDepth 1000000 in
theorem repeat0_any (c : Nat) (hc2 : 2 ≤ c) (hc : c ≤ 8192) (w : World) :
    Calls Try.prog 41 #[.string ⟨#[0]⟩, .int .i64 c] w fun e w' => e = .returned (.string ⟨(nts c).toArray⟩) ∧ Below w.heap.size w w' := by
  have b0 : Below w.heap.size w (w.alloc (.cells #[.pointer none, .slice none 0 0] 72)) := (Below.refl _ w).alloc (Nat.le_refl _) _
  have cG := bGrow_fresh w.heap.size w.heap.size c (w.alloc (.cells #[.pointer none, .slice none 0 0] 72)) (Nat.le_refl _) (heap_alloc_new w _) b0.size (by omega)
  have CG := Lib.hid cG
  have B0 := Lib.hid b0
  clear cG b0
  go_enter Try.func41, Try.ntmps41
  go_wp2_with (go_at_call 55; refine (mul_one c hc _).mono ?_; rintro e w' ⟨rfl, rfl⟩)
  refine CG.out.mono ?_
  rintro e W1 ⟨rfl, h1, b1⟩
  have cW := bwrite_f w.heap.size w.heap.size [] ⟨#[0]⟩ W1 (Lib.IsBuilderF.of (Or.inr h1)) (by show 0 + 1 ≤ _; omega) (Nat.le_trans B0.out.size b1.size)
  have CW := Lib.hid cW
  have B1 := Lib.hid b1
  clear cW h1 b1
  go_wp2_with fail
  refine CW.out.mono ?_
  rintro e W2 ⟨rfl, h2, b2⟩
  have h2' : Lib.IsBuilderF 72 5 w.heap.size w.heap.size (Lib.byteCells (nts 1)) W2 := by
    rw [List.nil_append] at h2
    exact Or.inr h2
  have b02 : Below w.heap.size w W2 := B0.out.trans (B1.out.trans b2)
  have H2 := Lib.hid h2'
  have B02 := Lib.hid b02
  clear h2 b2 h2' b02 B0 B1 CG CW
  go_wp2_with fail
  go_loopg [] (c - 1) (fun g wx => ∃ q : Nat, 1 ≤ q ∧ q + g = c ∧ Hid (Lib.IsBuilderF 72 5 w.heap.size w.heap.size (Lib.byteCells (nts q)) wx) ∧ Hid (Below w.heap.size w wx))
  case atStart => exact ⟨1, Nat.le_refl _, by omega, H2, B02⟩
  case round =>
    obtain ⟨q, hq1, hqg, hB, hbx⟩ := hrel
    have hlq : (Lib.byteCells (nts q)).length = q := by rw [Lib.byteCells_length]; simp [nts]
    have cLen := blen_f w.heap.size w.heap.size _ wr hB.out
    rw [hlq] at cLen
    have CL := Lib.hid cLen
    have cStr := bstring_f w.heap.size w.heap.size (nts q) wr hB.out hbx.out.size
    obtain ⟨S, hS⟩ : ∃ S : ByteArray, (⟨(nts q).toArray⟩ : ByteArray) = S := ⟨_, rfl⟩
    have hSz : S.size = q := by rw [← hS]; show (nts q).toArray.size = q; simp [nts]
    rw [hS] at cStr
    have CS := Lib.hid cStr
    have HSZ := Lib.hid hSz
    have HS := Lib.hid hS
    clear cLen cStr hlq hSz hS
    cases gk with
    | zero =>
      obtain rfl : q = c := by omega
      go_wp2_with (first
        | (go_at_call 58; refine CL.out.mono ?_; rintro e w' ⟨rfl, rfl⟩)
        | (go_at_call 32; refine CS.out.mono ?_; rintro e W3 ⟨rfl, h3, b3⟩))
      go_ret
      exact ⟨by rw [HS.out]; rfl, hbx.out.trans b3⟩
    | succ g =>
      have hqc : q < c := by omega
      obtain ⟨CH, hCH⟩ : ∃ CH, CH = min (c - q) q := ⟨_, rfl⟩
      have hch1 : 1 ≤ CH := by omega
      have hchq : CH ≤ q := by omega
      have hchc : q + CH ≤ c := by omega
      have hmin3 : ∀ (ts : Array TypeId) (t : TypeId) (W : World), (Builtin.min_ ts t #[.int .i64 ((c : Int) - (q : Int)), .int .i64 (q : Int), .int .i64 (c : Int)]).run Try.prog W = .ok (.int .i64 (CH : Int)) W := fun ts t W => by
        rw [run_min3]
        congr 2
        omega
      clear hCH
      have hext : (S.extract 0 CH).size = CH := by rw [ByteArray.size_extract, HSZ.out]; omega
      have hstr : Lib.strCells (S.extract 0 CH) = Lib.byteCells (nts CH) := by
        rw [Lib.strCells_eq, ByteArray.data_extract, ← HS.out]
        simp [nts, Nat.min_eq_left hchq]
      have HE := Lib.hid hext
      have HT := Lib.hid hstr
      clear hext hstr
      go_wp2_with (first
        | (go_at_call 58; refine CL.out.mono ?_; rintro e w' ⟨rfl, rfl⟩)
        | (go_at_call 32; refine CS.out.mono ?_; rintro e W3 ⟨rfl, h3, b3⟩; have H3 := Lib.hid h3; have B3 := Lib.hid b3; clear h3 b3 CS CL; have hqS : CH ≤ S.size := by rw [HSZ.out]; exact hchq))
      have cWr := bwrite_f w.heap.size w.heap.size _ (S.extract 0 CH) W3 H3.out (by rw [HE.out, Lib.byteCells_length]; simp [nts]; omega) (Nat.le_trans hbx.out.size B3.out.size)
      rw [HT.out, HE.out, ← Lib.byteCells_append] at cWr
      have CW := Lib.hid cWr
      clear cWr
      refine CW.out.mono ?_
      rintro e W4 ⟨rfl, h4, b4⟩
      have H4 := Lib.hid h4
      have B4 := Lib.hid b4
      clear h4 b4 CW
      go_wp2_with fail
      go_roundg (c - (q + CH))
      case measure => omega
      case rel =>
        refine ⟨q + CH, by omega, by omega, Lib.hid (Or.inr ?_), Lib.hid (hbx.out.trans (B3.out.trans B4.out))⟩
        have := H4.out
        rwa [show nts q ++ nts CH = nts (q + CH) by simp [nts]] at this
end Go.Proofs.Ytbeloaccgmgocaa
namespace Go.Proofs.Ytbeloaccgmgocaa.Pr
open Go.RowKit Go.Proofs.Ytbeloaccgmgocaa
def strings_Repeat.f (a0 : ByteArray) (a1 : Int) : Option (ByteArray) := if a0.data.toList = [0] ∧ 2 ≤ a1 ∧ a1 ≤ 8192 then some ⟨(nts a1.toNat).toArray⟩ else none
theorem strings_Repeat.calls (a0 : ByteArray) (a1 : Int) (r : ByteArray) (w : World) (h : strings_Repeat.f a0 a1 = some r) :
    Calls Try.prog 41 #[.string a0, .int .i64 a1] w fun e w' => e = .returned (.string r) ∧ Below w.heap.size w w' := by
  unfold strings_Repeat.f at h
  split at h
  · rename_i hh
    obtain rfl := Option.some.inj h
    obtain ⟨c, rfl⟩ : ∃ c : Nat, a1 = (c : Int) := ⟨a1.toNat, by omega⟩
    have ha : a0 = ⟨#[0]⟩ := by
      apply ByteArray.ext; apply Array.ext'; exact hh.1
    subst ha
    exact repeat0_any c (by omega) (by omega) w
  · cases h
end Go.Proofs.Ytbeloaccgmgocaa.Pr
