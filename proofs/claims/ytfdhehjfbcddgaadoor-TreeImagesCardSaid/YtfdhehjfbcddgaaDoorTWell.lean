/- (tree.Link).well: is a node, for itself, right? Conditions: the name is no longer than a million; the tables of unicode/utf8 lie in memory. -/
import Derived.Test.YtfdhehjfbcddgaaDoorTKids
namespace Go.Proofs.YtfdhehjfbcddgaaDoor.Pr
open Go.RowKit Go.Proofs.YtfdhehjfbcddgaaDoorW.PrintWords Go.Proofs.YtfdhehjfbcddgaaDoorW.PrintLast Go.Proofs.YtfdhehjfbcddgaaDoor
set_option linter.unusedVariables false
def wellB (x : Nd) : Bool := if x.ghost = true then decide (x.name.size = 0) && (decide (x.time = 0) && !x.pin) else labelB x.name
theorem size_zero (n : ByteArray) : n.size = 0 ↔ n = ByteArray.empty := by
  constructor
  · intro h
    apply ByteArray.ext
    have h1 : n.data.toList.length = 0 := by rw [Array.length_toList]; exact h
    apply Array.ext'
    rw [List.length_eq_zero_iff.1 h1]; rfl
  · rintro rfl; rfl
set_option maxRecDepth 100000 in
set_option maxHeartbeats 4000000 in
theorem well_any (x : Nd) (w : World) (hs : x.name.size ≤ 1000000) (hT : Tabs w) :
    Calls Tryd.prog 61 #[valN x] w fun e w' => e = .returned (.bool (wellB x)) ∧ Below w.heap.size w w' := by
  obtain ⟨i, p, n, t, g, b⟩ := x
  unfold valN wellB
  dsimp only at hs ⊢
  have hb0 : Below w.heap.size w (w.alloc (.cells #[.int .i64 i, .int .i64 p, .string n, .int .u64 t, .bool g, .bool b] 42)) := (Below.refl _ _).alloc (Nat.le_refl _) _
  have hlr := right_any n _ hs (hT.below hb0)
  have hem := size_empty n
  cases g with
  | false =>
    rw [if_neg (by decide)]
    generalize labelB n = L at hlr ⊢
    have HLR := Lib.hid hlr
    have HB0 := Lib.hid hb0
    clear hlr hb0 hT
    go_enter Tryd.func61, Tryd.ntmps61
    go_wp2_with fail
    refine HLR.out.mono ?_
    rintro e w1 ⟨rfl, hb1⟩
    have HB1 := Lib.hid (HB0.out.trans (hb1.mono HB0.out.size))
    clear hb1
    go_wp2_with fail
    go_ret
    exact ⟨rfl, HB1.out⟩
  | true =>
    rw [if_pos rfl]
    have HB0 := Lib.hid hb0
    clear hlr hb0 hT
    go_enter Tryd.func61, Tryd.ntmps61
    go_wp2_with fail
    all_goals (go_ret; refine ⟨ret_bool ?_, (Below.refl _ _).alloc (Nat.le_refl _) _⟩)
    all_goals simp_all
end Go.Proofs.YtfdhehjfbcddgaaDoor.Pr
