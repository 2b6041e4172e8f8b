-- Printed by a program of this session (wip/pr/hook.py) by way of the kit's printer; contracts of my own beside it.
import Derived.Test.YtnjhgbhafpnclaaPrx0
import Derived.Test.YtnjhgbhafpnclaaPrx1
import Derived.Test.YtnjhgbhafpnclaaPrx2
import Derived.Test.YtnjhgbhafpnclaaPrx3
import Derived.Test.YtnjhgbhafpnclaaPrx4
import Derived.Test.YtnjhgbhafpnclaaPrx9
import Derived.Test.YtnjhgbhafpnclaaPrx10
import Derived.Test.YtnjhgbhafpnclaaHDrop
import Derived.Test.YtnjhgbhafpnclaaHPut
import Derived.Test.YtnjhgbhafpnclaaHRight
namespace Go.Proofs.Ytnjhgbhafpnclaa.Pr
open Go.RowKit Go.Proofs.YtnjhgbhafpnclaaW.PrintWords Go.Proofs.YtnjhgbhafpnclaaW.PrintLast Go.Proofs.YtnjhgbhafpnclaaW.PrintMore
attribute [local go_sem] max2_int min2_int max_two min_two max_three min_three max_four min_four   -- for this text's walks alone
set_option linter.unusedVariables false
set_option linter.unusedSimpArgs false

/-! ### rootcellarlaw9_CellPut: function 7 -/
mutual
def rootcellarlaw9_CellPut.j0 : Nat → Int → Int → Int → Bool → Int → List (S51) → Int → List (S51) → Int → List (S51) → Option (Bool)
  | 0, _, _, _, _, _, _, _, _, _, _ => none
  | k + 1, x2, x3, x10, x68, x463000, x463001, x471000, x471001, x477000, x477001 => if x68 = true then (none) else (rootcellarlaw9_CellPut.l0 k x2 x3 x10 0 x463000 x463001 x471000 x471001 x477000 x477001)
def rootcellarlaw9_CellPut.l0 : Nat → Int → Int → Int → Int → Int → List (S51) → Int → List (S51) → Int → List (S51) → Option (Bool)
  | 0, _, _, _, _, _, _, _, _, _, _ => none
  | k + 1, x2, x3, x10, x16, x463000, x463001, x471000, x471001, x477000, x477001 => if x16 < x10 then ((cell_Get.f x463000 x463001 x16).bind fun bt479 => ((cell_Get.f x471000 x471001 x16).bind fun bt481 => ((cell_Get.f x477000 x477001 x16).bind fun bt483 => (if x16 = x2 then ((rootcellarlaw9_cluster.f k x3).bind fun t485 => (if bt481.1.toList = t485.toList then (if bt481.2 = true then (if bt483.2 = true then (none) else (if bt483.1.toList = ([] : List UInt8) then (rootcellarlaw9_CellPut.l0 k x2 x3 x10 (wrap64 (x16 + 1)) x463000 x463001 x471000 x471001 x477000 x477001) else (none))) else (none)) else (none))) else (if bt479.1.toList = bt481.1.toList then (if (bt479.2 != bt481.2) = true then (none) else (if bt479.1.toList = bt483.1.toList then (if (bt479.2 != bt483.2) = true then (none) else (rootcellarlaw9_CellPut.l0 k x2 x3 x10 (wrap64 (x16 + 1)) x463000 x463001 x471000 x471001 x477000 x477001)) else (none))) else (none)))))) else ((rootcellarlaw9_cluster.f k x3).bind fun t486 => ((cell_Put.f x471000 x471001 x2 t486).bind fun bt487 => ((rootcellarlaw9_as.f k x471000 x471001).bind fun bt493 => ((rootcellarlaw9_same.f k bt487.1 bt487.2.1 bt493.1 bt493.2).bind fun t497 => (if t497 = true then (if (x471001.length : Int) ≤ x10 then (some ((x477001.length : Int) == (wrap64 ((x471001.length : Int) - 1)))) else (none)) else (none))))))
end
def rootcellarlaw9_CellPut.f (k : Nat) (a0 : Int) (l1 : List Int) (a2 : Int) (a3 : Int) : Option (Bool) := (rootcellarlaw9_shown.f k).bind fun t456 => ((rootcellarlaw9_pick.f a0 64).bind fun t457 => ((rootcellarlaw9_made.f k (wrap64 (1 + t457)) l1).bind fun bt458 => ((rootcellarlaw9_pick.f a2 (wrap64 (1 + t457))).bind fun t463 => ((rootcellarlaw9_cluster.f k a3).bind fun t464 => ((cell_Put.f bt458.1 bt458.2 t463 t464).bind fun bt465 => ((cell_Drop.f bt465.1 bt465.2.1 t463).bind fun bt471 => (if t456 = true then (if bt465.2.2 = 0 then (if bt471.2.2 = 0 then ((cell_Right.f bt465.1 bt465.2.1).bind fun t477 => (if t477 = true then ((cell_Right.f bt471.1 bt471.2.1).bind fun t478 => (rootcellarlaw9_CellPut.j0 k t463 a3 (wrap64 (1 + t457)) (!t478) bt458.1 bt458.2 bt465.1 bt465.2.1 bt471.1 bt471.2.1)) else (none))) else (none)) else (none)) else (none))))))))
theorem rootcellarlaw9_CellPut.mono_l : ∀ k, (∀ y0 y1 y2 y3 y4 y5 y6 y7 y8 y9, LeO (rootcellarlaw9_CellPut.j0 k y0 y1 y2 y3 y4 y5 y6 y7 y8 y9) (rootcellarlaw9_CellPut.j0 (k + 1) y0 y1 y2 y3 y4 y5 y6 y7 y8 y9)) ∧ (∀ y0 y1 y2 y3 y4 y5 y6 y7 y8 y9, LeO (rootcellarlaw9_CellPut.l0 k y0 y1 y2 y3 y4 y5 y6 y7 y8 y9) (rootcellarlaw9_CellPut.l0 (k + 1) y0 y1 y2 y3 y4 y5 y6 y7 y8 y9))
  | 0 => ⟨fun _ _ _ _ _ _ _ _ _ _ r h => by simp [rootcellarlaw9_CellPut.j0] at h, fun _ _ _ _ _ _ _ _ _ _ r h => by simp [rootcellarlaw9_CellPut.l0] at h⟩
  | k + 1 => by
    obtain ⟨ih0, ih1⟩ := rootcellarlaw9_CellPut.mono_l k
    refine ⟨?_, ?_⟩
    · intro y0 y1 y2 y3 y4 y5 y6 y7 y8 y9
      unfold rootcellarlaw9_CellPut.j0
      repeat' first
      | (with_reducible exact ih0 _ _ _ _ _ _ _ _ _ _)
      | (with_reducible exact ih1 _ _ _ _ _ _ _ _ _ _)
      | (with_reducible exact rootcellarlaw9_as.mono _ _ _)
      | (with_reducible exact rootcellarlaw9_cluster.mono _ _)
      | (with_reducible exact rootcellarlaw9_made.mono _ _ _)
      | (with_reducible exact rootcellarlaw9_same.mono _ _ _ _ _)
      | (with_reducible exact rootcellarlaw9_shown.mono _)
      | (with_reducible exact LeO.refl _)
      | (with_reducible exact LeO.none _)
      | (with_reducible refine LeO.ite ?_ ?_)
      | (with_reducible refine LeO.bind ?_ (fun _ => ?_))
      | exact ih0 _ _ _ _ _ _ _ _ _ _
      | exact ih1 _ _ _ _ _ _ _ _ _ _
      | exact rootcellarlaw9_as.mono _ _ _
      | exact rootcellarlaw9_cluster.mono _ _
      | exact rootcellarlaw9_made.mono _ _ _
      | exact rootcellarlaw9_same.mono _ _ _ _ _
      | exact rootcellarlaw9_shown.mono _
      | exact LeO.none _
      | refine LeO.ite ?_ ?_
      | refine LeO.bind ?_ (fun _ => ?_)
    · intro y0 y1 y2 y3 y4 y5 y6 y7 y8 y9
      unfold rootcellarlaw9_CellPut.l0
      repeat' first
      | (with_reducible exact ih0 _ _ _ _ _ _ _ _ _ _)
      | (with_reducible exact ih1 _ _ _ _ _ _ _ _ _ _)
      | (with_reducible exact rootcellarlaw9_as.mono _ _ _)
      | (with_reducible exact rootcellarlaw9_cluster.mono _ _)
      | (with_reducible exact rootcellarlaw9_made.mono _ _ _)
      | (with_reducible exact rootcellarlaw9_same.mono _ _ _ _ _)
      | (with_reducible exact rootcellarlaw9_shown.mono _)
      | (with_reducible exact LeO.refl _)
      | (with_reducible exact LeO.none _)
      | (with_reducible refine LeO.ite ?_ ?_)
      | (with_reducible refine LeO.bind ?_ (fun _ => ?_))
      | exact ih0 _ _ _ _ _ _ _ _ _ _
      | exact ih1 _ _ _ _ _ _ _ _ _ _
      | exact rootcellarlaw9_as.mono _ _ _
      | exact rootcellarlaw9_cluster.mono _ _
      | exact rootcellarlaw9_made.mono _ _ _
      | exact rootcellarlaw9_same.mono _ _ _ _ _
      | exact rootcellarlaw9_shown.mono _
      | exact LeO.none _
      | refine LeO.ite ?_ ?_
      | refine LeO.bind ?_ (fun _ => ?_)
theorem rootcellarlaw9_CellPut.mono : ∀ a0 a1 a2 a3 k, LeO (rootcellarlaw9_CellPut.f k a0 a1 a2 a3) (rootcellarlaw9_CellPut.f (k + 1) a0 a1 a2 a3) := by
  intro a0 a1 a2 a3 k
  obtain ⟨ih0, ih1⟩ := rootcellarlaw9_CellPut.mono_l k
  unfold rootcellarlaw9_CellPut.f
  repeat' first
      | (with_reducible exact ih0 _ _ _ _ _ _ _ _ _ _)
      | (with_reducible exact ih1 _ _ _ _ _ _ _ _ _ _)
      | (with_reducible exact rootcellarlaw9_as.mono _ _ _)
      | (with_reducible exact rootcellarlaw9_cluster.mono _ _)
      | (with_reducible exact rootcellarlaw9_made.mono _ _ _)
      | (with_reducible exact rootcellarlaw9_same.mono _ _ _ _ _)
      | (with_reducible exact rootcellarlaw9_shown.mono _)
      | (with_reducible exact LeO.refl _)
      | (with_reducible exact LeO.none _)
      | (with_reducible refine LeO.ite ?_ ?_)
      | (with_reducible refine LeO.bind ?_ (fun _ => ?_))
      | exact ih0 _ _ _ _ _ _ _ _ _ _
      | exact ih1 _ _ _ _ _ _ _ _ _ _
      | exact rootcellarlaw9_as.mono _ _ _
      | exact rootcellarlaw9_cluster.mono _ _
      | exact rootcellarlaw9_made.mono _ _ _
      | exact rootcellarlaw9_same.mono _ _ _ _ _
      | exact rootcellarlaw9_shown.mono _
      | exact LeO.none _
      | refine LeO.ite ?_ ?_
      | refine LeO.bind ?_ (fun _ => ?_)
def rootcellarlaw9_CellPut.T5 : Bool × List (List Nat × List Nat) := (true, [([], []), ([], []), ([], []), ([2], [2]), ([0, 1, 3, 3], [0, 1, 3]), ([4], [4]), ([5], [5]), ([5], [5]), ([], []), ([8, 6, 4, 0, 1, 2, 3, 4, 5, 6, 8], [6, 8]), ([7, 9, 0, 1, 2, 3, 4, 5, 6, 7, 8, 9], [7])])
def rootcellarlaw9_CellPut.B5 : List Nat := [0, 0, 0, 4, 15, 31, 63, 63, 0, 383, 1023]
theorem rootcellarlaw9_CellPut.tab5 : rtab .any (opsOf Try.f7 5) = rootcellarlaw9_CellPut.T5 := by kernel_rfl
theorem rootcellarlaw9_CellPut.bits5 : waitsOk rootcellarlaw9_CellPut.T5.2 rootcellarlaw9_CellPut.B5 = true := by kernel_rfl
def rootcellarlaw9_CellPut.T17 : Bool × List (List Nat × List Nat) := (true, [([], []), ([], []), ([], []), ([2], [2]), ([0, 1, 3, 3], [0, 1, 3]), ([4], [4]), ([5], [5]), ([5], [5]), ([], []), ([8, 6, 4, 0, 1, 2, 3, 4, 5, 6, 8], [6, 8]), ([7, 9, 0, 1, 2, 3, 4, 5, 6, 7, 8, 9], [7])])
def rootcellarlaw9_CellPut.B17 : List Nat := [0, 0, 0, 4, 15, 31, 63, 63, 0, 383, 1023]
theorem rootcellarlaw9_CellPut.tab17 : rtab .any (opsOf Try.f7 17) = rootcellarlaw9_CellPut.T17 := by kernel_rfl
theorem rootcellarlaw9_CellPut.bits17 : waitsOk rootcellarlaw9_CellPut.T17.2 rootcellarlaw9_CellPut.B17 = true := by kernel_rfl
def rootcellarlaw9_CellPut.T18 : Bool × List (List Nat × List Nat) := (true, [([], []), ([], []), ([1], [1]), ([0, 2, 2], [0, 2]), ([3, 3], [3]), ([4], [4]), ([5, 4], [4, 5]), ([6, 4], [4, 6]), ([4], [4]), ([7, 8, 4], [4, 7, 8]), ([4, 9], [4, 9]), ([10, 4], [10]), ([11], [11]), ([12, 11], [11, 12]), ([13, 11], [11, 13]), ([11], [11]), ([15, 11], [11, 15]), ([16, 11], [11, 16]), ([17, 11], [11, 17]), ([14, 18, 11], [11, 14, 18]), ([11, 19], [11, 19]), ([20, 11, 0, 1, 2, 3, 4, 5, 6, 7, 8, 9, 10, 11, 12, 13, 14, 15, 16, 17, 18, 19, 20], [20])])
def rootcellarlaw9_CellPut.B18 : List Nat := [0, 0, 2, 7, 15, 31, 63, 127, 31, 511, 1023, 2047, 4095, 8191, 16383, 4095, 36863, 102399, 233471, 524287, 1048575, 2097151]
theorem rootcellarlaw9_CellPut.tab18 : rtab .any (opsOf Try.f7 18) = rootcellarlaw9_CellPut.T18 := by kernel_rfl
theorem rootcellarlaw9_CellPut.bits18 : waitsOk rootcellarlaw9_CellPut.T18.2 rootcellarlaw9_CellPut.B18 = true := by kernel_rfl
set_option maxHeartbeats 8000000 in
set_option maxRecDepth 100000 in
theorem rootcellarlaw9_CellPut.calls (k : Nat) (a0 : Int) (A1 : Option Addr) (c1 : Nat) (l1 : List Int) (a2 : Int) (a3 : Int) (r : Bool) (w : World) (hr1 : Kd.C (Kd.int .i64) w A1 l1.length l1) (hc1 : l1.length ≤ c1) (h : rootcellarlaw9_CellPut.f k a0 l1 a2 a3 = some r) :
    Calls Try.prog 7 #[.int .i64 a0, .slice A1 l1.length c1, .int .i64 a2, .int .i64 a3] w fun e w' => e = .returned (.bool r) ∧ Below w.heap.size w w' := by
  have hu27 := Try.underlying27
  have HR1 := Aside0.mk hr1
  have HC1 := Aside0.mk hc1
  clear hr1 hc1
  have HB := Aside0.mk (Below.refl w.heap.size w)
  have H : ((rootcellarlaw9_shown.f k).bind fun t456 => ((rootcellarlaw9_pick.f a0 64).bind fun t457 => ((rootcellarlaw9_made.f k (wrap64 (1 + t457)) l1).bind fun bt458 => ((rootcellarlaw9_pick.f a2 (wrap64 (1 + t457))).bind fun t463 => ((rootcellarlaw9_cluster.f k a3).bind fun t464 => ((cell_Put.f bt458.1 bt458.2 t463 t464).bind fun bt465 => ((cell_Drop.f bt465.1 bt465.2.1 t463).bind fun bt471 => (if t456 = true then (if bt465.2.2 = 0 then (if bt471.2.2 = 0 then ((cell_Right.f bt465.1 bt465.2.1).bind fun t477 => (if t477 = true then ((cell_Right.f bt471.1 bt471.2.1).bind fun t478 => (rootcellarlaw9_CellPut.j0 k t463 a3 (wrap64 (1 + t457)) (!t478) bt458.1 bt458.2 bt465.1 bt465.2.1 bt471.1 bt471.2.1)) else (none))) else (none)) else (none)) else (none))))))))) = some r := h
  clear h
  replace H := Option.bind_eq_some_iff.mp H
  obtain ⟨t456, A50, H⟩ := H
  replace H : ((rootcellarlaw9_pick.f a0 64).bind fun t457 => ((rootcellarlaw9_made.f k (wrap64 (1 + t457)) l1).bind fun bt458 => ((rootcellarlaw9_pick.f a2 (wrap64 (1 + t457))).bind fun t463 => ((rootcellarlaw9_cluster.f k a3).bind fun t464 => ((cell_Put.f bt458.1 bt458.2 t463 t464).bind fun bt465 => ((cell_Drop.f bt465.1 bt465.2.1 t463).bind fun bt471 => (if t456 = true then (if bt465.2.2 = 0 then (if bt471.2.2 = 0 then ((cell_Right.f bt465.1 bt465.2.1).bind fun t477 => (if t477 = true then ((cell_Right.f bt471.1 bt471.2.1).bind fun t478 => (rootcellarlaw9_CellPut.j0 k t463 a3 (wrap64 (1 + t457)) (!t478) bt458.1 bt458.2 bt465.1 bt465.2.1 bt471.1 bt471.2.1)) else (none))) else (none)) else (none)) else (none)))))))) = some r := H
  have A5 := Aside0.mk A50
  clear A50
  replace H := Option.bind_eq_some_iff.mp H
  obtain ⟨t457, A60, H⟩ := H
  replace H : ((rootcellarlaw9_made.f k (wrap64 (1 + t457)) l1).bind fun bt458 => ((rootcellarlaw9_pick.f a2 (wrap64 (1 + t457))).bind fun t463 => ((rootcellarlaw9_cluster.f k a3).bind fun t464 => ((cell_Put.f bt458.1 bt458.2 t463 t464).bind fun bt465 => ((cell_Drop.f bt465.1 bt465.2.1 t463).bind fun bt471 => (if t456 = true then (if bt465.2.2 = 0 then (if bt471.2.2 = 0 then ((cell_Right.f bt465.1 bt465.2.1).bind fun t477 => (if t477 = true then ((cell_Right.f bt471.1 bt471.2.1).bind fun t478 => (rootcellarlaw9_CellPut.j0 k t463 a3 (wrap64 (1 + t457)) (!t478) bt458.1 bt458.2 bt465.1 bt465.2.1 bt471.1 bt471.2.1)) else (none))) else (none)) else (none)) else (none))))))) = some r := H
  have A6 := Aside0.mk A60
  clear A60
  replace H := Option.bind_eq_some_iff.mp H
  obtain ⟨⟨t458, t459⟩, A70, H⟩ := H
  replace H : ((rootcellarlaw9_pick.f a2 (wrap64 (1 + t457))).bind fun t463 => ((rootcellarlaw9_cluster.f k a3).bind fun t464 => ((cell_Put.f t458 t459 t463 t464).bind fun bt465 => ((cell_Drop.f bt465.1 bt465.2.1 t463).bind fun bt471 => (if t456 = true then (if bt465.2.2 = 0 then (if bt471.2.2 = 0 then ((cell_Right.f bt465.1 bt465.2.1).bind fun t477 => (if t477 = true then ((cell_Right.f bt471.1 bt471.2.1).bind fun t478 => (rootcellarlaw9_CellPut.j0 k t463 a3 (wrap64 (1 + t457)) (!t478) t458 t459 bt465.1 bt465.2.1 bt471.1 bt471.2.1)) else (none))) else (none)) else (none)) else (none)))))) = some r := H
  have A7 := Aside0.mk A70
  clear A70
  replace H := Option.bind_eq_some_iff.mp H
  obtain ⟨t463, A80, H⟩ := H
  replace H : ((rootcellarlaw9_cluster.f k a3).bind fun t464 => ((cell_Put.f t458 t459 t463 t464).bind fun bt465 => ((cell_Drop.f bt465.1 bt465.2.1 t463).bind fun bt471 => (if t456 = true then (if bt465.2.2 = 0 then (if bt471.2.2 = 0 then ((cell_Right.f bt465.1 bt465.2.1).bind fun t477 => (if t477 = true then ((cell_Right.f bt471.1 bt471.2.1).bind fun t478 => (rootcellarlaw9_CellPut.j0 k t463 a3 (wrap64 (1 + t457)) (!t478) t458 t459 bt465.1 bt465.2.1 bt471.1 bt471.2.1)) else (none))) else (none)) else (none)) else (none))))) = some r := H
  have A8 := Aside0.mk A80
  clear A80
  replace H := Option.bind_eq_some_iff.mp H
  obtain ⟨t464, A90, H⟩ := H
  replace H : ((cell_Put.f t458 t459 t463 t464).bind fun bt465 => ((cell_Drop.f bt465.1 bt465.2.1 t463).bind fun bt471 => (if t456 = true then (if bt465.2.2 = 0 then (if bt471.2.2 = 0 then ((cell_Right.f bt465.1 bt465.2.1).bind fun t477 => (if t477 = true then ((cell_Right.f bt471.1 bt471.2.1).bind fun t478 => (rootcellarlaw9_CellPut.j0 k t463 a3 (wrap64 (1 + t457)) (!t478) t458 t459 bt465.1 bt465.2.1 bt471.1 bt471.2.1)) else (none))) else (none)) else (none)) else (none)))) = some r := H
  have A9 := Aside0.mk A90
  clear A90
  replace H := Option.bind_eq_some_iff.mp H
  obtain ⟨⟨t465, t466, t469⟩, A100, H⟩ := H
  replace H : ((cell_Drop.f t465 t466 t463).bind fun bt471 => (if t456 = true then (if t469 = 0 then (if bt471.2.2 = 0 then ((cell_Right.f t465 t466).bind fun t477 => (if t477 = true then ((cell_Right.f bt471.1 bt471.2.1).bind fun t478 => (rootcellarlaw9_CellPut.j0 k t463 a3 (wrap64 (1 + t457)) (!t478) t458 t459 t465 t466 bt471.1 bt471.2.1)) else (none))) else (none)) else (none)) else (none))) = some r := H
  have A10 := Aside0.mk A100
  clear A100
  replace H := Option.bind_eq_some_iff.mp H
  obtain ⟨⟨t471, t472, t475⟩, A110, H⟩ := H
  replace H : (if t456 = true then (if t469 = 0 then (if t475 = 0 then ((cell_Right.f t465 t466).bind fun t477 => (if t477 = true then ((cell_Right.f t471 t472).bind fun t478 => (rootcellarlaw9_CellPut.j0 k t463 a3 (wrap64 (1 + t457)) (!t478) t458 t459 t465 t466 t471 t472)) else (none))) else (none)) else (none)) else (none)) = some r := H
  have A11 := Aside0.mk A110
  clear A110
  have HC12 := Aside0.mk H
  clear H
  go_enter Try.func7, Try.ntmps7
  try go_wp2_with (first | ((with_reducible refine gate_callee (f := 8) rfl ?_); refine goesL_ (some 25) rfl rfl Try.func8 (by kernel_rfl) rfl #[] rfl (by (try simp only [List.map_toArray, List.map_cons, List.map_nil]); first | done | rfl | (simp only [List.length_drop, List.length_take]; rfl)) ?_; (with_reducible refine (rootcellarlaw9_shown.calls k  t456 _ A5.out).mono ?_); rintro e w13 ⟨rfl, hb⟩; refine ⟨_, rfl, ?_⟩; have n0_ := Aside0.mk (below_step (by repeat (first | (with_reducible first | exact HB.out | apply below_alloc | apply pw_below_drewN | apply below_drew1) | exact HB.out)) hb); clear HB; have HB := n0_; clear n0_; (try clear hb); (try clear hb2); (try clear hk); (try clear hi)) | ((with_reducible refine gate_callee (f := 9) rfl ?_); refine goesL_ (some 27) rfl rfl Try.func9 (by kernel_rfl) rfl #[.int .i64 a0, .int .i64 64] rfl (by (try simp only [List.map_toArray, List.map_cons, List.map_nil]); first | done | rfl | (simp only [List.length_drop, List.length_take]; rfl)) ?_; (with_reducible refine (rootcellarlaw9_pick.calls a0 64 t457 _ A6.out).mono ?_); rintro e w' ⟨rfl, ⟨nd, rfl⟩⟩; refine ⟨_, rfl, ?_⟩; (try (rw [drewN_self w13]; generalize hq_ : World.drewN w13 _ = w13; have n0_ : Aside0 (Below w.heap.size w w13) := ⟨by rw [← hq_]; exact (by repeat (first | (with_reducible first | exact HB.out | apply below_alloc | apply pw_below_drewN | apply below_drew1) | exact HB.out))⟩; clear HB hq_; have HB := n0_; clear n0_))) | ((with_reducible refine gate_callee (f := 10) rfl ?_); refine goesL_ (some 31) rfl rfl Try.func10 (by kernel_rfl) rfl #[.int .i64 (wrap64 (1 + t457)), .slice A1 l1.length c1] rfl (by (try simp only [List.map_toArray, List.map_cons, List.map_nil]); first | done | rfl | (simp only [List.length_drop, List.length_take]; rfl)) ?_; (with_reducible refine (rootcellarlaw9_made.calls k (wrap64 (1 + t457)) _ _ l1 t458 t459 _ ?side1 ?side2 A7.out).mono ?_); (case side1 => repeat (first | exact (Kd.C_below HR1.out HB.out) | (with_reducible refine Kd.C_alloc ?_ _) | (with_reducible refine Kd.C_drewN ?_ _) | (with_reducible refine Kd.C_drew ?_))); (case side2 => exact HC1.out); rintro e w14 ⟨v460, rfl, ho0, hb⟩; refine ⟨_, rfl, ?_⟩; have n0_ := Aside0.mk (Kd.R_lower ho0 (below_size (by repeat (first | (with_reducible first | exact HB.out | apply below_alloc | apply pw_below_drewN | apply below_drew1) | exact HB.out)))); have n1_ := Aside0.mk (below_step (by repeat (first | (with_reducible first | exact HB.out | apply below_alloc | apply pw_below_drewN | apply below_drew1) | exact HB.out)) hb); clear HB; have HO461 := n0_; have HB := n1_; clear n0_ n1_; (try clear hb); (try clear hb2); (try clear hk); (try clear hi); (try clear ho0)) | ((with_reducible refine gate_dst (N := 11) rfl ?_); (try (refine gate_guard (by rfl) ?_; dsimp only)); refine box_event ?hg (N := 11) ?hd (cs := #[.int .i64 0, .slice none 0 0]) (t := 27) ?hr ?_; (case hd => rfl); (case hg => rfl); (case hr => first | (go_simp; done) | (go_simp; rfl)); intro gb462 hg w15 hbox hb; have n0_ := Aside0.mk (Kd.R_below (by (with_reducible repeat (first | apply Kd.R_alloc | apply Kd.R_drewN | apply Kd.R_drew)); exact HO461.out) hb); have n1_ := Aside0.mk (below_step (by repeat (first | (with_reducible first | exact HB.out | apply below_alloc | apply pw_below_drewN | apply below_drew1) | exact HB.out)) hb); have n2_ := Aside0.mk (hbox); have n3_ := Aside0.mk ((by rw [hg]; exact (below_size (by repeat (first | (with_reducible first | exact HB.out | apply below_alloc | apply pw_below_drewN | apply below_drew1) | exact HB.out))) : w.heap.size ≤ gb462)); have n4_ := Aside0.mk ((by rw [hg]; exact (below_size (by repeat (first | (with_reducible first | exact HB.out | apply below_alloc | apply pw_below_drewN | apply below_drew1) | exact HB.out))) : w.heap.size ≤ gb462)); clear HO461; clear HB; have HO461 := n0_; have HB := n1_; have BK462 := n2_; have GW462 := n3_; have GE462 := n4_; clear n0_ n1_ n2_ n3_ n4_; clear hb hbox hg; have hcz16_0 : w15.cell? ⟨gb462, 0, none⟩ = some (.int .i64 0) := (blk_cell BK462.out 0).trans rfl; have hcz16_1 : w15.cell? ⟨gb462, 1, none⟩ = some (.slice none 0 0) := (blk_cell BK462.out 1).trans rfl; have hfz16_0 := blk_frozen BK462.out 0; have hfz16_1 := blk_frozen BK462.out 1; obtain ⟨Ao17, co17, eo17⟩ := Kd.R_slice HO461.out; subst eo17) | ((with_reducible refine gate_callee (f := 9) rfl ?_); refine goesL_ (some 34) rfl rfl Try.func9 (by kernel_rfl) rfl #[.int .i64 a2, .int .i64 (wrap64 (1 + t457))] rfl (by (try simp only [List.map_toArray, List.map_cons, List.map_nil]); first | done | rfl | (simp only [List.length_drop, List.length_take]; rfl)) ?_; (with_reducible refine (rootcellarlaw9_pick.calls a2 (wrap64 (1 + t457)) t463 _ A8.out).mono ?_); rintro e w' ⟨rfl, ⟨nd, rfl⟩⟩; refine ⟨_, rfl, ?_⟩))
  have n0_ : Aside0 (Kd.R k51 51 ((w15.setCell ⟨gb462, 0, none⟩ (.int .i64 t458)).setCell ⟨gb462, 1, none⟩ (.slice Ao17 t459.length co17)) w.heap.size (fun _ => True) (.slice Ao17 t459.length co17) t459) := ⟨by (with_reducible repeat (first | apply Kd.R_alloc | apply Kd.R_drewN | apply Kd.R_drew)); exact Kd.R_mono (Kd.R_far (p := ⟨gb462, 1, none⟩) (Kd.R_far (p := ⟨gb462, 0, none⟩) (Kd.R_types HO461.out BK462.out (by decide)) (fun _ hk => hk.2) (.int .i64 t458)) (fun _ hk => hk.2) (.slice Ao17 t459.length co17)) (fun _ hk => trivial)⟩
  have n1_ : Aside0 (((w15.setCell ⟨gb462, 0, none⟩ (.int .i64 t458)).setCell ⟨gb462, 1, none⟩ (.slice Ao17 t459.length co17)).heap[gb462]? = some (.cells #[.int .i64 t458, .slice Ao17 t459.length co17] 27 (0, 0))) := ⟨by (with_reducible repeat (first | refine blk_drewN ?_ _ | refine blk_drew ?_ | refine blk_alloc ?_ _)); refine blk_put (cs := #[.int .i64 t458, .slice none 0 0]) ?_ 1 _ rfl; (with_reducible repeat (first | refine blk_drewN ?_ _ | refine blk_drew ?_ | refine blk_alloc ?_ _)); refine blk_put (cs := #[.int .i64 0, .slice none 0 0]) ?_ 0 _ rfl; (with_reducible repeat (first | refine blk_drewN ?_ _ | refine blk_drew ?_ | refine blk_alloc ?_ _)); exact BK462.out⟩
  have n2_ : Aside0 (Below w.heap.size w ((w15.setCell ⟨gb462, 0, none⟩ (.int .i64 t458)).setCell ⟨gb462, 1, none⟩ (.slice Ao17 t459.length co17))) := ⟨by repeat (first | (with_reducible first | exact HB.out | apply below_alloc | apply pw_below_drewN | apply below_drew1 | refine below_set ?_ GE462.out) | exact HB.out)⟩
  (try clear HO461)
  (try clear BK462)
  (try clear HB)
  generalize ((w15.setCell ⟨gb462, 0, none⟩ (.int .i64 t458)).setCell ⟨gb462, 1, none⟩ (.slice Ao17 t459.length co17)) = w18 at n0_ n1_ n2_ ⊢
  have HO461 := n0_
  have BK462 := n1_
  have HB := n2_
  clear n0_ n1_ n2_
  (try (rw [drewN_self w18]; generalize hq_ : World.drewN w18 _ = w18; have n0_ : Aside0 (Kd.R k51 51 w18 w.heap.size (fun _ => True) (.slice Ao17 t459.length co17) t459) := ⟨by rw [← hq_]; exact (by (with_reducible repeat (first | apply Kd.R_alloc | apply Kd.R_drewN | apply Kd.R_drew)); exact HO461.out)⟩; have n1_ : Aside0 (w18.heap[gb462]? = some (.cells #[.int .i64 t458, .slice Ao17 t459.length co17] 27 (0, 0))) := ⟨by rw [← hq_]; exact (by (with_reducible repeat (first | refine blk_drewN ?_ _ | refine blk_drew ?_ | refine blk_alloc ?_ _)); exact BK462.out)⟩; have n2_ : Aside0 (Below w.heap.size w w18) := ⟨by rw [← hq_]; exact (by repeat (first | (with_reducible first | exact HB.out | apply below_alloc | apply pw_below_drewN | apply below_drew1 | refine below_set ?_ GE462.out) | exact HB.out))⟩; clear HO461 BK462 HB hq_; have HO461 := n0_; have BK462 := n1_; have HB := n2_; clear n0_ n1_ n2_))
  have n0_ := Aside0.mk (Kd.R_drew HO461.out)
  have n1_ := Aside0.mk (blk_drew BK462.out)
  have n2_ := Aside0.mk (below_drew1 HB.out)
  clear HO461
  clear BK462
  clear HB
  have HO461 := n0_
  have BK462 := n1_
  have HB := n2_
  clear n0_ n1_ n2_
  refine start_ (n := 11) (S := fun w' => w'.cell? ⟨gb462, 0, none⟩ = some (.int .i64 t458) ∧ w'.cell? ⟨gb462, 1, none⟩ = some (.slice Ao17 t459.length co17)) (ds := []) #[false, false, false, false, false, false, false, false, false, false, false] (by kernel_rfl) rfl rfl ⟨(blk_cell BK462.out 0).trans rfl, (blk_cell BK462.out 1).trans rfl⟩ (fun hHeld => ?_); refine with_tabW rootcellarlaw9_CellPut.tab5 rootcellarlaw9_CellPut.bits5 (fun HT_ HW_ => ?_)
  generalize w18.drew = w19 at HO461 BK462 HB hHeld ⊢
  refine pure_ (i := 1) (N := some 37) (v := ?_) (a' := ?_) #[false, true, false, false, false, false, false, false, false, false, false] rfl rfl (any_of HT_.out (by kernel_rfl)) (fun _ _ _ h => h) (Or.inl ⟨by rfl, ?_⟩) ?_ ?_
  rotate_left
  · intro w'
    go_simp
    with_reducible rfl
  rotate_left
  · simp only [Act.put, List.setIfInBounds_toArray, List.set_cons_zero, List.set_cons_succ, i64_w, i32_w]
    rfl
  refine pure_ (i := 2) (N := some 38) (v := ?_) (a' := ?_) #[false, true, true, false, false, false, false, false, false, false, false] rfl rfl (any_of HT_.out (by kernel_rfl)) (fun _ _ _ h => h) (Or.inl ⟨by rfl, ?_⟩) ?_ ?_
  rotate_left
  · intro w'
    go_simp
    with_reducible rfl
  rotate_left
  · simp only [Act.put, List.setIfInBounds_toArray, List.set_cons_zero, List.set_cons_succ, i64_w, i32_w]
    rfl
  refine take_ (i := 0) (N := some 36) (v := ?_) (a' := ?_) #[true, true, true, false, false, false, false, false, false, false, false] rfl rfl (take_ofW HT_.out HW_.out (by kernel_rfl)) (fun _ _ _ h => h) (Or.inl ⟨by rfl, ?_⟩) hHeld ?_ ?_
  rotate_left
  · rintro w' ⟨s0, s1⟩
    go_simp
    with_reducible rfl
  rotate_left
  · simp only [Act.put, List.setIfInBounds_toArray, List.set_cons_zero, List.set_cons_succ, i64_w, i32_w]
    rfl
  refine join_ (σ := Value × Nat) 2 #[true, true, true, true, true, true, true, true, true, false, false] (fun s_ => [(39, .string t464), (40, .tuple #[.agg #[.int .i64 t465, s_.1], .int .i64 t469]), (12, .pointer (some ⟨s_.2, 0, none⟩)), (35, .tuple #[.agg #[.int .i64 t465, s_.1], .int .i64 t469]), (41, .agg #[.int .i64 t465, s_.1]), (42, .int .i64 t469)]) (fun s_ w' => (w'.cell? ⟨gb462, 0, none⟩ = some (.int .i64 t458) ∧ w'.cell? ⟨gb462, 1, none⟩ = some (.slice Ao17 t459.length co17)) ∧ (Kd.R k51 51 w' w.heap.size (fun k_ => some k_ ≠ (s_.1 : Value).ownBlock) (.slice Ao17 t459.length co17) t459) ∧ (Kd.R k51 51 w' w.heap.size (fun k_ => some k_ ≠ (.slice Ao17 t459.length co17 : Value).ownBlock) s_.1 t466) ∧ (w'.heap[gb462]? = some (.cells #[.int .i64 t458, .slice Ao17 t459.length co17] 27 (0, 0))) ∧ (w'.heap[s_.2]? = some (.cells #[.int .i64 0, .slice none 0 0] 27 (0, 0))) ∧ (w.heap.size ≤ s_.2) ∧ (w.heap.size ≤ s_.2) ∧ (gb462 ≠ s_.2) ∧ (s_.2 ≠ gb462) ∧ (Below w.heap.size w w')) ?_ ?_
  rotate_left
  · intro hCont
    refine two_ (i := 3) (j := 8) (Ni := some 39) (Nj := some 12) #[true, true, true, true, false, false, false, false, false, false, false] #[true, true, true, false, false, false, false, false, true, false, false] rfl rfl rfl rfl (two_of HT_.out (by kernel_rfl)) (by decide) (by decide) (fun K hK => ?_) (fun K hK => ?_)
    · skip
      refine goes_ Try.func14 (by kernel_rfl) rfl #[.int .i64 a3] (by rfl) rfl rfl (by (try simp only [List.map_toArray, List.map_cons, List.map_nil]); first | done | rfl | (simp only [List.length_drop, List.length_take]; rfl)) ?_
      with_reducible refine (rootcellarlaw9_cluster.calls k a3 t464 _ A9.out).mono ?_
      rintro e w20 ⟨rfl, hb⟩
      refine ⟨_, rfl, ?_⟩
      have n0_ := Aside0.mk (Kd.R_below (by (with_reducible repeat (first | apply Kd.R_alloc | apply Kd.R_drewN | apply Kd.R_drew)); exact HO461.out) hb)
      have n1_ := Aside0.mk (blk_below (g := gb462) (o := .cells #[.int .i64 t458, .slice Ao17 t459.length co17] 27 (0, 0)) (by (with_reducible repeat (first | refine blk_drewN ?_ _ | refine blk_drew ?_ | refine blk_alloc ?_ _)); exact BK462.out) hb)
      have n2_ := Aside0.mk (below_step (by repeat (first | (with_reducible first | exact HB.out | apply below_alloc | apply pw_below_drewN | apply below_drew1 | refine below_set ?_ GE462.out) | exact HB.out)) hb)
      clear HO461
      clear BK462
      clear HB
      have HO461 := n0_
      have BK462 := n1_
      have HB := n2_
      clear n0_ n1_ n2_
      (try clear hb)
      (try clear hb2)
      (try clear hk)
      (try clear hi)
      refine hK.out _ _ ⟨(blk_cell BK462.out 0).trans rfl, (blk_cell BK462.out 1).trans rfl⟩ (fun hHeld => ?_)
      clear hK K
      refine norm_ (a' := ?_) ?_ ?_
      rotate_left
      · show Act.put _ (some 39) _ = _
        simp only [Act.put, List.setIfInBounds_toArray, List.set_cons_zero, List.set_cons_succ, i64_w, i32_w]
        rfl
      refine two_ (i := 4) (j := 8) (Ni := some 40) (Nj := some 12) #[true, true, true, true, true, false, false, false, false, false, false] #[true, true, true, true, false, false, false, false, true, false, false] rfl rfl rfl rfl (two_of HT_.out (by kernel_rfl)) (by decide) (by decide) (fun K hK => ?_) (fun K hK => ?_)
      · skip
        refine goes_ Try.func15 (by kernel_rfl) rfl #[.agg #[.int .i64 t458, .slice Ao17 t459.length co17], .int .i64 t463, .string t464] (by rfl) rfl rfl (by (try simp only [List.map_toArray, List.map_cons, List.map_nil]); first | done | rfl | (simp only [List.length_drop, List.length_take]; rfl)) ?_
        with_reducible refine (cell_Put.calls t458 _ _ t459 t463 t464 t465 t466 t469 _ ?side1 ?side2 A10.out).mono ?_
        (case side1 => repeat (first | exact (Kd.R_reads' HO461.out).2.2 | (with_reducible refine Kd.C_alloc ?_ _) | (with_reducible refine Kd.C_drewN ?_ _) | (with_reducible refine Kd.C_drew ?_)))
        (case side2 => exact (Kd.R_reads' HO461.out).2.1)
        rintro e w21 ⟨v467, rfl, ho0, hb⟩
        refine ⟨_, rfl, ?_⟩
        have n0_ := Aside0.mk (Kd.R_elder' (by (with_reducible repeat (first | apply Kd.R_alloc | apply Kd.R_drewN | apply Kd.R_drew)); exact HO461.out) (Kd.R_base ho0) hb)
        have n1_ := Aside0.mk (Kd.R_lower (Kd.R_new' ho0 (Kd.R_lt (by (with_reducible repeat (first | apply Kd.R_alloc | apply Kd.R_drewN | apply Kd.R_drew)); exact HO461.out))) (below_size (by repeat (first | (with_reducible first | exact HB.out | apply below_alloc | apply pw_below_drewN | apply below_drew1 | refine below_set ?_ GE462.out) | exact HB.out))))
        have n2_ := Aside0.mk (blk_below (g := gb462) (o := .cells #[.int .i64 t458, .slice Ao17 t459.length co17] 27 (0, 0)) (by (with_reducible repeat (first | refine blk_drewN ?_ _ | refine blk_drew ?_ | refine blk_alloc ?_ _)); exact BK462.out) hb)
        have n3_ := Aside0.mk (below_step (by repeat (first | (with_reducible first | exact HB.out | apply below_alloc | apply pw_below_drewN | apply below_drew1 | refine below_set ?_ GE462.out) | exact HB.out)) hb)
        clear HO461
        clear BK462
        clear HB
        have HO461 := n0_
        have HO468 := n1_
        have BK462 := n2_
        have HB := n3_
        clear n0_ n1_ n2_ n3_
        (try clear hb)
        (try clear hb2)
        (try clear hk)
        (try clear hi)
        (try clear ho0)
        refine hK.out _ _ ⟨(blk_cell BK462.out 0).trans rfl, (blk_cell BK462.out 1).trans rfl⟩ (fun hHeld => ?_)
        clear hK K
        refine norm_ (a' := ?_) ?_ ?_
        rotate_left
        · show Act.put _ (some 40) _ = _
          simp only [Act.put, List.setIfInBounds_toArray, List.set_cons_zero, List.set_cons_succ, i64_w, i32_w]
          rfl
        refine pure_ (i := 5) (N := some 35) (v := ?_) (a' := ?_) #[true, true, true, true, true, true, false, false, false, false, false] rfl rfl (any_of HT_.out (by kernel_rfl)) (fun _ _ _ h => h) (Or.inl ⟨by rfl, ?_⟩) ?_ ?_
        rotate_left
        · intro w'
          go_simp
          with_reducible rfl
        rotate_left
        · simp only [Act.put, List.setIfInBounds_toArray, List.set_cons_zero, List.set_cons_succ, i64_w, i32_w]
          rfl
        refine pure_ (i := 6) (N := some 41) (v := ?_) (a' := ?_) #[true, true, true, true, true, true, true, false, false, false, false] rfl rfl (any_of HT_.out (by kernel_rfl)) (fun _ _ _ h => h) (Or.inl ⟨by rfl, ?_⟩) ?_ ?_
        rotate_left
        · intro w'
          go_simp
          with_reducible rfl
        rotate_left
        · simp only [Act.put, List.setIfInBounds_toArray, List.set_cons_zero, List.set_cons_succ, i64_w, i32_w]
          rfl
        refine pure_ (i := 7) (N := some 42) (v := ?_) (a' := ?_) #[true, true, true, true, true, true, true, true, false, false, false] rfl rfl (any_of HT_.out (by kernel_rfl)) (fun _ _ _ h => h) (Or.inl ⟨by rfl, ?_⟩) ?_ ?_
        rotate_left
        · intro w'
          go_simp
          with_reducible rfl
        rotate_left
        · simp only [Act.put, List.setIfInBounds_toArray, List.set_cons_zero, List.set_cons_succ, i64_w, i32_w]
          rfl
        refine one_ (i := 8) (N := some 12) #[true, true, true, true, true, true, true, true, true, false, false] rfl rfl (one_of HT_.out (by kernel_rfl)) (by decide) (fun K hK => ?_)
        refine box_step ?hg (N := 12) ?hd (cs := #[.int .i64 0, .slice none 0 0]) (t := 27) ?hr ?_; (case hd => rfl); (case hg => rfl); (case hr => first | (go_simp; done) | (go_simp; rfl))
        intro gb470 hg w22 hbox hb
        have n0_ := Aside0.mk (Kd.R_below (by (with_reducible repeat (first | apply Kd.R_alloc | apply Kd.R_drewN | apply Kd.R_drew)); exact HO461.out) hb)
        have n1_ := Aside0.mk (Kd.R_below (by (with_reducible repeat (first | apply Kd.R_alloc | apply Kd.R_drewN | apply Kd.R_drew)); exact HO468.out) hb)
        have n2_ := Aside0.mk (blk_below (g := gb462) (o := .cells #[.int .i64 t458, .slice Ao17 t459.length co17] 27 (0, 0)) (by (with_reducible repeat (first | refine blk_drewN ?_ _ | refine blk_drew ?_ | refine blk_alloc ?_ _)); exact BK462.out) hb)
        have n3_ := Aside0.mk (below_step (by repeat (first | (with_reducible first | exact HB.out | apply below_alloc | apply pw_below_drewN | apply below_drew1 | refine below_set ?_ GE462.out) | exact HB.out)) hb)
        have n4_ := Aside0.mk (hbox)
        have n5_ := Aside0.mk ((by rw [hg]; exact (below_size (by repeat (first | (with_reducible first | exact HB.out | apply below_alloc | apply pw_below_drewN | apply below_drew1 | refine below_set ?_ GE462.out) | exact HB.out))) : w.heap.size ≤ gb470))
        have n6_ := Aside0.mk ((by rw [hg]; exact (below_size (by repeat (first | (with_reducible first | exact HB.out | apply below_alloc | apply pw_below_drewN | apply below_drew1 | refine below_set ?_ GE462.out) | exact HB.out))) : w.heap.size ≤ gb470))
        have n7_ := Aside0.mk ((by rw [hg]; exact Nat.ne_of_lt (blk_lt (g := gb462) (o := .cells #[.int .i64 t458, .slice Ao17 t459.length co17] 27 (0, 0)) (by (with_reducible repeat (first | refine blk_drewN ?_ _ | refine blk_drew ?_ | refine blk_alloc ?_ _)); exact BK462.out)) : gb462 ≠ gb470))
        have n8_ := Aside0.mk ((by rw [hg]; exact Nat.ne_of_gt (blk_lt (g := gb462) (o := .cells #[.int .i64 t458, .slice Ao17 t459.length co17] 27 (0, 0)) (by (with_reducible repeat (first | refine blk_drewN ?_ _ | refine blk_drew ?_ | refine blk_alloc ?_ _)); exact BK462.out)) : gb470 ≠ gb462))
        clear HO461
        clear HO468
        clear BK462
        clear HB
        have HO461 := n0_
        have HO468 := n1_
        have BK462 := n2_
        have HB := n3_
        have BK470 := n4_
        have GW470 := n5_
        have GE470 := n6_
        have NB462_470 := n7_
        have NB470_462 := n8_
        clear n0_ n1_ n2_ n3_ n4_ n5_ n6_ n7_ n8_
        clear hb hbox hg
        refine hK.out _ _ ⟨(blk_cell BK462.out 0).trans rfl, (blk_cell BK462.out 1).trans rfl⟩ (fun hHeld => ?_)
        clear hK K
        refine norm_ (a' := ?_) ?_ ?_
        rotate_left
        · show Act.put _ (some 12) _ = _
          simp only [Act.put, List.setIfInBounds_toArray, List.set_cons_zero, List.set_cons_succ, i64_w, i32_w]
          rfl
        exact norm_ (by simp only [putAll, Act.put, List.setIfInBounds_toArray, List.set_cons_zero, List.set_cons_succ]) (hCont (v467, gb470) _ ⟨hHeld, (by (with_reducible repeat (first | apply Kd.R_alloc | apply Kd.R_drewN | apply Kd.R_drew)); exact Kd.R_mono HO461.out (fun _ hk => hk.2)), (by (with_reducible repeat (first | apply Kd.R_alloc | apply Kd.R_drewN | apply Kd.R_drew)); exact Kd.R_mono HO468.out (fun _ hk => hk.2)), (by (with_reducible repeat (first | refine blk_drewN ?_ _ | refine blk_drew ?_ | refine blk_alloc ?_ _)); exact BK462.out), (by (with_reducible repeat (first | refine blk_drewN ?_ _ | refine blk_drew ?_ | refine blk_alloc ?_ _)); exact BK470.out), GW470.out, GE470.out, NB462_470.out, NB470_462.out, (by repeat (first | (with_reducible first | exact HB.out | apply below_alloc | apply pw_below_drewN | apply below_drew1 | refine below_set ?_ GE462.out | refine below_set ?_ GE470.out) | exact HB.out))⟩)
      · skip
        refine box_step ?hg (N := 12) ?hd (cs := #[.int .i64 0, .slice none 0 0]) (t := 27) ?hr ?_; (case hd => rfl); (case hg => rfl); (case hr => first | (go_simp; done) | (go_simp; rfl))
        intro gb470 hg w21 hbox hb
        have n0_ := Aside0.mk (Kd.R_below (by (with_reducible repeat (first | apply Kd.R_alloc | apply Kd.R_drewN | apply Kd.R_drew)); exact HO461.out) hb)
        have n1_ := Aside0.mk (blk_below (g := gb462) (o := .cells #[.int .i64 t458, .slice Ao17 t459.length co17] 27 (0, 0)) (by (with_reducible repeat (first | refine blk_drewN ?_ _ | refine blk_drew ?_ | refine blk_alloc ?_ _)); exact BK462.out) hb)
        have n2_ := Aside0.mk (below_step (by repeat (first | (with_reducible first | exact HB.out | apply below_alloc | apply pw_below_drewN | apply below_drew1 | refine below_set ?_ GE462.out) | exact HB.out)) hb)
        have n3_ := Aside0.mk (hbox)
        have n4_ := Aside0.mk ((by rw [hg]; exact (below_size (by repeat (first | (with_reducible first | exact HB.out | apply below_alloc | apply pw_below_drewN | apply below_drew1 | refine below_set ?_ GE462.out) | exact HB.out))) : w.heap.size ≤ gb470))
        have n5_ := Aside0.mk ((by rw [hg]; exact (below_size (by repeat (first | (with_reducible first | exact HB.out | apply below_alloc | apply pw_below_drewN | apply below_drew1 | refine below_set ?_ GE462.out) | exact HB.out))) : w.heap.size ≤ gb470))
        have n6_ := Aside0.mk ((by rw [hg]; exact Nat.ne_of_lt (blk_lt (g := gb462) (o := .cells #[.int .i64 t458, .slice Ao17 t459.length co17] 27 (0, 0)) (by (with_reducible repeat (first | refine blk_drewN ?_ _ | refine blk_drew ?_ | refine blk_alloc ?_ _)); exact BK462.out)) : gb462 ≠ gb470))
        have n7_ := Aside0.mk ((by rw [hg]; exact Nat.ne_of_gt (blk_lt (g := gb462) (o := .cells #[.int .i64 t458, .slice Ao17 t459.length co17] 27 (0, 0)) (by (with_reducible repeat (first | refine blk_drewN ?_ _ | refine blk_drew ?_ | refine blk_alloc ?_ _)); exact BK462.out)) : gb470 ≠ gb462))
        clear HO461
        clear BK462
        clear HB
        have HO461 := n0_
        have BK462 := n1_
        have HB := n2_
        have BK470 := n3_
        have GW470 := n4_
        have GE470 := n5_
        have NB462_470 := n6_
        have NB470_462 := n7_
        clear n0_ n1_ n2_ n3_ n4_ n5_ n6_ n7_
        clear hb hbox hg
        refine hK.out _ _ ⟨(blk_cell BK462.out 0).trans rfl, (blk_cell BK462.out 1).trans rfl⟩ (fun hHeld => ?_)
        clear hK K
        refine norm_ (a' := ?_) ?_ ?_
        rotate_left
        · show Act.put _ (some 12) _ = _
          simp only [Act.put, List.setIfInBounds_toArray, List.set_cons_zero, List.set_cons_succ, i64_w, i32_w]
          rfl
        refine one_ (i := 4) (N := some 40) #[true, true, true, true, true, false, false, false, true, false, false] rfl rfl (one_of HT_.out (by kernel_rfl)) (by decide) (fun K hK => ?_)
        refine goes_ Try.func15 (by kernel_rfl) rfl #[.agg #[.int .i64 t458, .slice Ao17 t459.length co17], .int .i64 t463, .string t464] (by rfl) rfl rfl (by (try simp only [List.map_toArray, List.map_cons, List.map_nil]); first | done | rfl | (simp only [List.length_drop, List.length_take]; rfl)) ?_
        with_reducible refine (cell_Put.calls t458 _ _ t459 t463 t464 t465 t466 t469 _ ?side1 ?side2 A10.out).mono ?_
        (case side1 => repeat (first | exact (Kd.R_reads' HO461.out).2.2 | (with_reducible refine Kd.C_alloc ?_ _) | (with_reducible refine Kd.C_drewN ?_ _) | (with_reducible refine Kd.C_drew ?_)))
        (case side2 => exact (Kd.R_reads' HO461.out).2.1)
        rintro e w22 ⟨v467, rfl, ho0, hb⟩
        refine ⟨_, rfl, ?_⟩
        have n0_ := Aside0.mk (Kd.R_elder' (by (with_reducible repeat (first | apply Kd.R_alloc | apply Kd.R_drewN | apply Kd.R_drew)); exact HO461.out) (Kd.R_base ho0) hb)
        have n1_ := Aside0.mk (Kd.R_lower (Kd.R_new' ho0 (Kd.R_lt (by (with_reducible repeat (first | apply Kd.R_alloc | apply Kd.R_drewN | apply Kd.R_drew)); exact HO461.out))) (below_size (by repeat (first | (with_reducible first | exact HB.out | apply below_alloc | apply pw_below_drewN | apply below_drew1 | refine below_set ?_ GE462.out | refine below_set ?_ GE470.out) | exact HB.out))))
        have n2_ := Aside0.mk (blk_below (g := gb462) (o := .cells #[.int .i64 t458, .slice Ao17 t459.length co17] 27 (0, 0)) (by (with_reducible repeat (first | refine blk_drewN ?_ _ | refine blk_drew ?_ | refine blk_alloc ?_ _)); exact BK462.out) hb)
        have n3_ := Aside0.mk (blk_below (g := gb470) (o := .cells #[.int .i64 0, .slice none 0 0] 27 (0, 0)) (by (with_reducible repeat (first | refine blk_drewN ?_ _ | refine blk_drew ?_ | refine blk_alloc ?_ _)); exact BK470.out) hb)
        have n4_ := Aside0.mk (below_step (by repeat (first | (with_reducible first | exact HB.out | apply below_alloc | apply pw_below_drewN | apply below_drew1 | refine below_set ?_ GE462.out | refine below_set ?_ GE470.out) | exact HB.out)) hb)
        clear HO461
        clear BK462
        clear BK470
        clear HB
        have HO461 := n0_
        have HO468 := n1_
        have BK462 := n2_
        have BK470 := n3_
        have HB := n4_
        clear n0_ n1_ n2_ n3_ n4_
        (try clear hb)
        (try clear hb2)
        (try clear hk)
        (try clear hi)
        (try clear ho0)
        refine hK.out _ _ ⟨(blk_cell BK462.out 0).trans rfl, (blk_cell BK462.out 1).trans rfl⟩ (fun hHeld => ?_)
        clear hK K
        refine norm_ (a' := ?_) ?_ ?_
        rotate_left
        · show Act.put _ (some 40) _ = _
          simp only [Act.put, List.setIfInBounds_toArray, List.set_cons_zero, List.set_cons_succ, i64_w, i32_w]
          rfl
        refine pure_ (i := 5) (N := some 35) (v := ?_) (a' := ?_) #[true, true, true, true, true, true, false, false, true, false, false] rfl rfl (any_of HT_.out (by kernel_rfl)) (fun _ _ _ h => h) (Or.inl ⟨by rfl, ?_⟩) ?_ ?_
        rotate_left
        · intro w'
          go_simp
          with_reducible rfl
        rotate_left
        · simp only [Act.put, List.setIfInBounds_toArray, List.set_cons_zero, List.set_cons_succ, i64_w, i32_w]
          rfl
        refine pure_ (i := 6) (N := some 41) (v := ?_) (a' := ?_) #[true, true, true, true, true, true, true, false, true, false, false] rfl rfl (any_of HT_.out (by kernel_rfl)) (fun _ _ _ h => h) (Or.inl ⟨by rfl, ?_⟩) ?_ ?_
        rotate_left
        · intro w'
          go_simp
          with_reducible rfl
        rotate_left
        · simp only [Act.put, List.setIfInBounds_toArray, List.set_cons_zero, List.set_cons_succ, i64_w, i32_w]
          rfl
        refine pure_ (i := 7) (N := some 42) (v := ?_) (a' := ?_) #[true, true, true, true, true, true, true, true, true, false, false] rfl rfl (any_of HT_.out (by kernel_rfl)) (fun _ _ _ h => h) (Or.inl ⟨by rfl, ?_⟩) ?_ ?_
        rotate_left
        · intro w'
          go_simp
          with_reducible rfl
        rotate_left
        · simp only [Act.put, List.setIfInBounds_toArray, List.set_cons_zero, List.set_cons_succ, i64_w, i32_w]
          rfl
        exact norm_ (by simp only [putAll, Act.put, List.setIfInBounds_toArray, List.set_cons_zero, List.set_cons_succ]) (hCont (v467, gb470) _ ⟨hHeld, (by (with_reducible repeat (first | apply Kd.R_alloc | apply Kd.R_drewN | apply Kd.R_drew)); exact Kd.R_mono HO461.out (fun _ hk => hk.2)), (by (with_reducible repeat (first | apply Kd.R_alloc | apply Kd.R_drewN | apply Kd.R_drew)); exact Kd.R_mono HO468.out (fun _ hk => hk.2)), (by (with_reducible repeat (first | refine blk_drewN ?_ _ | refine blk_drew ?_ | refine blk_alloc ?_ _)); exact BK462.out), (by (with_reducible repeat (first | refine blk_drewN ?_ _ | refine blk_drew ?_ | refine blk_alloc ?_ _)); exact BK470.out), GW470.out, GE470.out, NB462_470.out, NB470_462.out, (by repeat (first | (with_reducible first | exact HB.out | apply below_alloc | apply pw_below_drewN | apply below_drew1 | refine below_set ?_ GE462.out | refine below_set ?_ GE470.out) | exact HB.out))⟩)
    · skip
      refine box_step ?hg (N := 12) ?hd (cs := #[.int .i64 0, .slice none 0 0]) (t := 27) ?hr ?_; (case hd => rfl); (case hg => rfl); (case hr => first | (go_simp; done) | (go_simp; rfl))
      intro gb470 hg w20 hbox hb
      have n0_ := Aside0.mk (Kd.R_below (by (with_reducible repeat (first | apply Kd.R_alloc | apply Kd.R_drewN | apply Kd.R_drew)); exact HO461.out) hb)
      have n1_ := Aside0.mk (blk_below (g := gb462) (o := .cells #[.int .i64 t458, .slice Ao17 t459.length co17] 27 (0, 0)) (by (with_reducible repeat (first | refine blk_drewN ?_ _ | refine blk_drew ?_ | refine blk_alloc ?_ _)); exact BK462.out) hb)
      have n2_ := Aside0.mk (below_step (by repeat (first | (with_reducible first | exact HB.out | apply below_alloc | apply pw_below_drewN | apply below_drew1 | refine below_set ?_ GE462.out) | exact HB.out)) hb)
      have n3_ := Aside0.mk (hbox)
      have n4_ := Aside0.mk ((by rw [hg]; exact (below_size (by repeat (first | (with_reducible first | exact HB.out | apply below_alloc | apply pw_below_drewN | apply below_drew1 | refine below_set ?_ GE462.out) | exact HB.out))) : w.heap.size ≤ gb470))
      have n5_ := Aside0.mk ((by rw [hg]; exact (below_size (by repeat (first | (with_reducible first | exact HB.out | apply below_alloc | apply pw_below_drewN | apply below_drew1 | refine below_set ?_ GE462.out) | exact HB.out))) : w.heap.size ≤ gb470))
      have n6_ := Aside0.mk ((by rw [hg]; exact Nat.ne_of_lt (blk_lt (g := gb462) (o := .cells #[.int .i64 t458, .slice Ao17 t459.length co17] 27 (0, 0)) (by (with_reducible repeat (first | refine blk_drewN ?_ _ | refine blk_drew ?_ | refine blk_alloc ?_ _)); exact BK462.out)) : gb462 ≠ gb470))
      have n7_ := Aside0.mk ((by rw [hg]; exact Nat.ne_of_gt (blk_lt (g := gb462) (o := .cells #[.int .i64 t458, .slice Ao17 t459.length co17] 27 (0, 0)) (by (with_reducible repeat (first | refine blk_drewN ?_ _ | refine blk_drew ?_ | refine blk_alloc ?_ _)); exact BK462.out)) : gb470 ≠ gb462))
      clear HO461
      clear BK462
      clear HB
      have HO461 := n0_
      have BK462 := n1_
      have HB := n2_
      have BK470 := n3_
      have GW470 := n4_
      have GE470 := n5_
      have NB462_470 := n6_
      have NB470_462 := n7_
      clear n0_ n1_ n2_ n3_ n4_ n5_ n6_ n7_
      clear hb hbox hg
      refine hK.out _ _ ⟨(blk_cell BK462.out 0).trans rfl, (blk_cell BK462.out 1).trans rfl⟩ (fun hHeld => ?_)
      clear hK K
      refine norm_ (a' := ?_) ?_ ?_
      rotate_left
      · show Act.put _ (some 12) _ = _
        simp only [Act.put, List.setIfInBounds_toArray, List.set_cons_zero, List.set_cons_succ, i64_w, i32_w]
        rfl
      refine one_ (i := 3) (N := some 39) #[true, true, true, true, false, false, false, false, true, false, false] rfl rfl (one_of HT_.out (by kernel_rfl)) (by decide) (fun K hK => ?_)
      refine goes_ Try.func14 (by kernel_rfl) rfl #[.int .i64 a3] (by rfl) rfl rfl (by (try simp only [List.map_toArray, List.map_cons, List.map_nil]); first | done | rfl | (simp only [List.length_drop, List.length_take]; rfl)) ?_
      with_reducible refine (rootcellarlaw9_cluster.calls k a3 t464 _ A9.out).mono ?_
      rintro e w21 ⟨rfl, hb⟩
      refine ⟨_, rfl, ?_⟩
      have n0_ := Aside0.mk (Kd.R_below (by (with_reducible repeat (first | apply Kd.R_alloc | apply Kd.R_drewN | apply Kd.R_drew)); exact HO461.out) hb)
      have n1_ := Aside0.mk (blk_below (g := gb462) (o := .cells #[.int .i64 t458, .slice Ao17 t459.length co17] 27 (0, 0)) (by (with_reducible repeat (first | refine blk_drewN ?_ _ | refine blk_drew ?_ | refine blk_alloc ?_ _)); exact BK462.out) hb)
      have n2_ := Aside0.mk (blk_below (g := gb470) (o := .cells #[.int .i64 0, .slice none 0 0] 27 (0, 0)) (by (with_reducible repeat (first | refine blk_drewN ?_ _ | refine blk_drew ?_ | refine blk_alloc ?_ _)); exact BK470.out) hb)
      have n3_ := Aside0.mk (below_step (by repeat (first | (with_reducible first | exact HB.out | apply below_alloc | apply pw_below_drewN | apply below_drew1 | refine below_set ?_ GE462.out | refine below_set ?_ GE470.out) | exact HB.out)) hb)
      clear HO461
      clear BK462
      clear BK470
      clear HB
      have HO461 := n0_
      have BK462 := n1_
      have BK470 := n2_
      have HB := n3_
      clear n0_ n1_ n2_ n3_
      (try clear hb)
      (try clear hb2)
      (try clear hk)
      (try clear hi)
      refine hK.out _ _ ⟨(blk_cell BK462.out 0).trans rfl, (blk_cell BK462.out 1).trans rfl⟩ (fun hHeld => ?_)
      clear hK K
      refine norm_ (a' := ?_) ?_ ?_
      rotate_left
      · show Act.put _ (some 39) _ = _
        simp only [Act.put, List.setIfInBounds_toArray, List.set_cons_zero, List.set_cons_succ, i64_w, i32_w]
        rfl
      refine one_ (i := 4) (N := some 40) #[true, true, true, true, true, false, false, false, true, false, false] rfl rfl (one_of HT_.out (by kernel_rfl)) (by decide) (fun K hK => ?_)
      refine goes_ Try.func15 (by kernel_rfl) rfl #[.agg #[.int .i64 t458, .slice Ao17 t459.length co17], .int .i64 t463, .string t464] (by rfl) rfl rfl (by (try simp only [List.map_toArray, List.map_cons, List.map_nil]); first | done | rfl | (simp only [List.length_drop, List.length_take]; rfl)) ?_
      with_reducible refine (cell_Put.calls t458 _ _ t459 t463 t464 t465 t466 t469 _ ?side1 ?side2 A10.out).mono ?_
      (case side1 => repeat (first | exact (Kd.R_reads' HO461.out).2.2 | (with_reducible refine Kd.C_alloc ?_ _) | (with_reducible refine Kd.C_drewN ?_ _) | (with_reducible refine Kd.C_drew ?_)))
      (case side2 => exact (Kd.R_reads' HO461.out).2.1)
      rintro e w22 ⟨v467, rfl, ho0, hb⟩
      refine ⟨_, rfl, ?_⟩
      have n0_ := Aside0.mk (Kd.R_elder' (by (with_reducible repeat (first | apply Kd.R_alloc | apply Kd.R_drewN | apply Kd.R_drew)); exact HO461.out) (Kd.R_base ho0) hb)
      have n1_ := Aside0.mk (Kd.R_lower (Kd.R_new' ho0 (Kd.R_lt (by (with_reducible repeat (first | apply Kd.R_alloc | apply Kd.R_drewN | apply Kd.R_drew)); exact HO461.out))) (below_size (by repeat (first | (with_reducible first | exact HB.out | apply below_alloc | apply pw_below_drewN | apply below_drew1 | refine below_set ?_ GE462.out | refine below_set ?_ GE470.out) | exact HB.out))))
      have n2_ := Aside0.mk (blk_below (g := gb462) (o := .cells #[.int .i64 t458, .slice Ao17 t459.length co17] 27 (0, 0)) (by (with_reducible repeat (first | refine blk_drewN ?_ _ | refine blk_drew ?_ | refine blk_alloc ?_ _)); exact BK462.out) hb)
      have n3_ := Aside0.mk (blk_below (g := gb470) (o := .cells #[.int .i64 0, .slice none 0 0] 27 (0, 0)) (by (with_reducible repeat (first | refine blk_drewN ?_ _ | refine blk_drew ?_ | refine blk_alloc ?_ _)); exact BK470.out) hb)
      have n4_ := Aside0.mk (below_step (by repeat (first | (with_reducible first | exact HB.out | apply below_alloc | apply pw_below_drewN | apply below_drew1 | refine below_set ?_ GE462.out | refine below_set ?_ GE470.out) | exact HB.out)) hb)
      clear HO461
      clear BK462
      clear BK470
      clear HB
      have HO461 := n0_
      have HO468 := n1_
      have BK462 := n2_
      have BK470 := n3_
      have HB := n4_
      clear n0_ n1_ n2_ n3_ n4_
      (try clear hb)
      (try clear hb2)
      (try clear hk)
      (try clear hi)
      (try clear ho0)
      refine hK.out _ _ ⟨(blk_cell BK462.out 0).trans rfl, (blk_cell BK462.out 1).trans rfl⟩ (fun hHeld => ?_)
      clear hK K
      refine norm_ (a' := ?_) ?_ ?_
      rotate_left
      · show Act.put _ (some 40) _ = _
        simp only [Act.put, List.setIfInBounds_toArray, List.set_cons_zero, List.set_cons_succ, i64_w, i32_w]
        rfl
      refine pure_ (i := 5) (N := some 35) (v := ?_) (a' := ?_) #[true, true, true, true, true, true, false, false, true, false, false] rfl rfl (any_of HT_.out (by kernel_rfl)) (fun _ _ _ h => h) (Or.inl ⟨by rfl, ?_⟩) ?_ ?_
      rotate_left
      · intro w'
        go_simp
        with_reducible rfl
      rotate_left
      · simp only [Act.put, List.setIfInBounds_toArray, List.set_cons_zero, List.set_cons_succ, i64_w, i32_w]
        rfl
      refine pure_ (i := 6) (N := some 41) (v := ?_) (a' := ?_) #[true, true, true, true, true, true, true, false, true, false, false] rfl rfl (any_of HT_.out (by kernel_rfl)) (fun _ _ _ h => h) (Or.inl ⟨by rfl, ?_⟩) ?_ ?_
      rotate_left
      · intro w'
        go_simp
        with_reducible rfl
      rotate_left
      · simp only [Act.put, List.setIfInBounds_toArray, List.set_cons_zero, List.set_cons_succ, i64_w, i32_w]
        rfl
      refine pure_ (i := 7) (N := some 42) (v := ?_) (a' := ?_) #[true, true, true, true, true, true, true, true, true, false, false] rfl rfl (any_of HT_.out (by kernel_rfl)) (fun _ _ _ h => h) (Or.inl ⟨by rfl, ?_⟩) ?_ ?_
      rotate_left
      · intro w'
        go_simp
        with_reducible rfl
      rotate_left
      · simp only [Act.put, List.setIfInBounds_toArray, List.set_cons_zero, List.set_cons_succ, i64_w, i32_w]
        rfl
      exact norm_ (by simp only [putAll, Act.put, List.setIfInBounds_toArray, List.set_cons_zero, List.set_cons_succ]) (hCont (v467, gb470) _ ⟨hHeld, (by (with_reducible repeat (first | apply Kd.R_alloc | apply Kd.R_drewN | apply Kd.R_drew)); exact Kd.R_mono HO461.out (fun _ hk => hk.2)), (by (with_reducible repeat (first | apply Kd.R_alloc | apply Kd.R_drewN | apply Kd.R_drew)); exact Kd.R_mono HO468.out (fun _ hk => hk.2)), (by (with_reducible repeat (first | refine blk_drewN ?_ _ | refine blk_drew ?_ | refine blk_alloc ?_ _)); exact BK462.out), (by (with_reducible repeat (first | refine blk_drewN ?_ _ | refine blk_drew ?_ | refine blk_alloc ?_ _)); exact BK470.out), GW470.out, GE470.out, NB462_470.out, NB470_462.out, (by repeat (first | (with_reducible first | exact HB.out | apply below_alloc | apply pw_below_drewN | apply below_drew1 | refine below_set ?_ GE462.out | refine below_set ?_ GE470.out) | exact HB.out))⟩)
  rintro ⟨v467, gb470⟩ w23 ⟨hS_, h0_, h1_, h2_, h3_, h4_, h5_, h6_, h7_, h8_⟩
  have n0_ : Aside0 (Kd.R k51 51 w23 w.heap.size (fun k_ => some k_ ≠ (v467 : Value).ownBlock) (.slice Ao17 t459.length co17) t459) := ⟨h0_⟩
  have n1_ : Aside0 (Kd.R k51 51 w23 w.heap.size (fun k_ => some k_ ≠ (.slice Ao17 t459.length co17 : Value).ownBlock) v467 t466) := ⟨h1_⟩
  have n2_ : Aside0 (w23.heap[gb462]? = some (.cells #[.int .i64 t458, .slice Ao17 t459.length co17] 27 (0, 0))) := ⟨h2_⟩
  have n3_ : Aside0 (w23.heap[gb470]? = some (.cells #[.int .i64 0, .slice none 0 0] 27 (0, 0))) := ⟨h3_⟩
  have n4_ : Aside0 (w.heap.size ≤ gb470) := ⟨h4_⟩
  have n5_ : Aside0 (w.heap.size ≤ gb470) := ⟨h5_⟩
  have n6_ : Aside0 (gb462 ≠ gb470) := ⟨h6_⟩
  have n7_ : Aside0 (gb470 ≠ gb462) := ⟨h7_⟩
  have n8_ : Aside0 (Below w.heap.size w w23) := ⟨h8_⟩
  clear HO461
  clear BK462
  clear HB
  clear h0_ h1_ h2_ h3_ h4_ h5_ h6_ h7_ h8_
  have HO461 := n0_
  have HO468 := n1_
  have BK462 := n2_
  have BK470 := n3_
  have GW470 := n4_
  have GE470 := n5_
  have NB462_470 := n6_
  have NB470_462 := n7_
  have HB := n8_
  clear n0_ n1_ n2_ n3_ n4_ n5_ n6_ n7_ n8_
  have hHeld : w23.cell? ⟨gb462, 0, none⟩ = some (.int .i64 t458) ∧ w23.cell? ⟨gb462, 1, none⟩ = some (.slice Ao17 t459.length co17) := hS_
  obtain ⟨Ao25, co25, eo25⟩ := Kd.R_slice HO468.out
  (first | subst eo25 | (injection eo25 with f1_ f2_ f3_; have f4_ := f1_.symm; have f5_ := f3_.symm; clear f1_ f2_ f3_; subst f4_; subst f5_))
  refine norm_ (a' := ?_) ?_ ?_
  rotate_left
  · simp only [putAll, Act.put, List.setIfInBounds_toArray, List.set_cons_zero, List.set_cons_succ]
    rfl
  refine one_ (i := 9) (N := none) #[true, true, true, true, true, true, true, true, true, true, false] rfl rfl (one_of HT_.out (by kernel_rfl)) (by decide) (fun K hK => ?_)
  have hs24 : w23.cell? ⟨gb470, 0, none⟩ = some (.int .i64 0) := (blk_cell BK470.out 0).trans rfl
  have hfs24 := blk_frozen BK470.out 0
  have hns24_0 := NB462_470.out
  have hms24_0 := NB470_462.out
  have hs26 : w23.cell? ⟨gb470, 1, none⟩ = some (.slice none 0 0) := (blk_cell BK470.out 1).trans rfl
  have hfs26 := blk_frozen BK470.out 1
  have hns26_0 := NB462_470.out
  have hms26_0 := NB470_462.out
  refine skip_ (w1 := ?_) (by rfl) rfl ?_ ?_
  rotate_left
  · go_simp
    rfl
  refine hK.out _ _ ⟨((cell_far (p := ⟨gb470, _, none⟩) NB462_470.out _).trans (((cell_far (p := ⟨gb470, _, none⟩) NB462_470.out _).trans (hHeld.1)))), ((cell_far (p := ⟨gb470, _, none⟩) NB462_470.out _).trans (((cell_far (p := ⟨gb470, _, none⟩) NB462_470.out _).trans (hHeld.2))))⟩ (fun hHeld => ?_)
  clear hK K
  refine pure_ (i := 10) (N := some 13) (v := ?_) (a' := ?_) #[true, true, true, true, true, true, true, true, true, true, true] rfl rfl (any_of HT_.out (by kernel_rfl)) (fun _ _ _ h => h) (Or.inl ⟨by rfl, ?_⟩) ?_ ?_
  rotate_left
  · intro w'
    go_simp
    with_reducible rfl
  rotate_left
  · simp only [Act.put, List.setIfInBounds_toArray, List.set_cons_zero, List.set_cons_succ, i64_w, i32_w]
    rfl
  refine done_ (done_of HT_.out (by kernel_rfl)) ?_
  have hnb27 := NB470_462.out
  have hnc27 := NB462_470.out
  have hcz28_0 : w23.cell? ⟨gb470, 0, none⟩ = some (.int .i64 0) := (blk_cell BK470.out 0).trans rfl
  have hcz28_1 : w23.cell? ⟨gb470, 1, none⟩ = some (.slice none 0 0) := (blk_cell BK470.out 1).trans rfl
  have hfz28_0 := blk_frozen BK470.out 0
  have hfz28_1 := blk_frozen BK470.out 1
  go_upto_region 7 with (first | ((with_reducible refine gate_callee (f := 23) rfl ?_); refine goesL_ (some 46) rfl rfl Try.func23 (by kernel_rfl) rfl #[.agg #[.int .i64 t465, .slice Ao25 t466.length co25], .int .i64 t463] rfl (by (try simp only [List.map_toArray, List.map_cons, List.map_nil]); first | done | rfl | (simp only [List.length_drop, List.length_take]; rfl)) ?_; (with_reducible refine (cell_Drop.calls t465 _ _ t466 t463 t471 t472 t475 _ ?side1 ?side2 A11.out).mono ?_); (case side1 => refine (Kd.R_reads' (e := 51) (base := w.heap.size) (ok := fun k_ => some k_ ≠ (.slice Ao17 t459.length co17 : Value).ownBlock) (n := t466.length) (c := co25) ?_).2.2; exact (by (with_reducible repeat (first | apply Kd.R_alloc | apply Kd.R_drewN | apply Kd.R_drew)); exact (Kd.R_mono (Kd.R_far (p := ⟨gb470, 1, none⟩) (Kd.R_far (p := ⟨gb470, 0, none⟩) (Kd.R_types HO468.out BK470.out (by decide)) (fun _ hk => hk.2) (.int .i64 t465)) (fun _ hk => hk.2) (.slice Ao25 t466.length co25)) (fun _ h_ => h_.1)))); (case side2 => exact (Kd.R_reads' HO468.out).2.1); rintro e w29 ⟨v473, rfl, ho0, hb⟩; refine ⟨_, rfl, ?_⟩; have n0_ := Aside0.mk (Kd.R_elder' (by (with_reducible repeat (first | apply Kd.R_alloc | apply Kd.R_drewN | apply Kd.R_drew)); exact (Kd.R_mono (Kd.R_far (p := ⟨gb470, 1, none⟩) (Kd.R_far (p := ⟨gb470, 0, none⟩) (Kd.R_types HO461.out BK470.out (by decide)) (fun _ hk => hk.2) (.int .i64 t465)) (fun _ hk => hk.2) (.slice Ao25 t466.length co25)) (fun _ h_ => h_.1))) (Kd.R_base ho0) hb); have n1_ := Aside0.mk (Kd.R_elder' (by (with_reducible repeat (first | apply Kd.R_alloc | apply Kd.R_drewN | apply Kd.R_drew)); exact (Kd.R_mono (Kd.R_far (p := ⟨gb470, 1, none⟩) (Kd.R_far (p := ⟨gb470, 0, none⟩) (Kd.R_types HO468.out BK470.out (by decide)) (fun _ hk => hk.2) (.int .i64 t465)) (fun _ hk => hk.2) (.slice Ao25 t466.length co25)) (fun _ h_ => h_.1))) (Kd.R_base ho0) hb); have n2_ := Aside0.mk (Kd.R_lower (Kd.R_new' (Kd.R_new' ho0 (Kd.R_lt (by (with_reducible repeat (first | apply Kd.R_alloc | apply Kd.R_drewN | apply Kd.R_drew)); exact (Kd.R_mono (Kd.R_far (p := ⟨gb470, 1, none⟩) (Kd.R_far (p := ⟨gb470, 0, none⟩) (Kd.R_types HO461.out BK470.out (by decide)) (fun _ hk => hk.2) (.int .i64 t465)) (fun _ hk => hk.2) (.slice Ao25 t466.length co25)) (fun _ h_ => h_.1))))) (Kd.R_lt (by (with_reducible repeat (first | apply Kd.R_alloc | apply Kd.R_drewN | apply Kd.R_drew)); exact (Kd.R_mono (Kd.R_far (p := ⟨gb470, 1, none⟩) (Kd.R_far (p := ⟨gb470, 0, none⟩) (Kd.R_types HO468.out BK470.out (by decide)) (fun _ hk => hk.2) (.int .i64 t465)) (fun _ hk => hk.2) (.slice Ao25 t466.length co25)) (fun _ h_ => h_.1))))) (below_size (by repeat (first | (with_reducible first | exact HB.out | apply below_alloc | apply pw_below_drewN | apply below_drew1 | refine below_set ?_ GE462.out | refine below_set ?_ GE470.out) | exact HB.out)))); have n3_ := Aside0.mk (blk_below (g := gb462) (o := .cells #[.int .i64 t458, .slice Ao17 t459.length co17] 27 (0, 0)) (by (with_reducible repeat (first | refine blk_drewN ?_ _ | refine blk_drew ?_ | refine blk_alloc ?_ _)); refine blk_far ?_ NB462_470.out _; (with_reducible repeat (first | refine blk_drewN ?_ _ | refine blk_drew ?_ | refine blk_alloc ?_ _)); refine blk_far ?_ NB462_470.out _; (with_reducible repeat (first | refine blk_drewN ?_ _ | refine blk_drew ?_ | refine blk_alloc ?_ _)); exact BK462.out) hb); have n4_ := Aside0.mk (blk_below (g := gb470) (o := .cells #[.int .i64 t465, .slice Ao25 t466.length co25] 27 (0, 0)) (by (with_reducible repeat (first | refine blk_drewN ?_ _ | refine blk_drew ?_ | refine blk_alloc ?_ _)); refine blk_put (cs := #[.int .i64 t465, .slice none 0 0]) ?_ 1 _ rfl; (with_reducible repeat (first | refine blk_drewN ?_ _ | refine blk_drew ?_ | refine blk_alloc ?_ _)); refine blk_put (cs := #[.int .i64 0, .slice none 0 0]) ?_ 0 _ rfl; (with_reducible repeat (first | refine blk_drewN ?_ _ | refine blk_drew ?_ | refine blk_alloc ?_ _)); exact BK470.out) hb); have n5_ := Aside0.mk (below_step (by repeat (first | (with_reducible first | exact HB.out | apply below_alloc | apply pw_below_drewN | apply below_drew1 | refine below_set ?_ GE462.out | refine below_set ?_ GE470.out) | exact HB.out)) hb); clear HO461; clear HO468; clear BK462; clear BK470; clear HB; have HO461 := n0_; have HO468 := n1_; have HO474 := n2_; have BK462 := n3_; have BK470 := n4_; have HB := n5_; clear n0_ n1_ n2_ n3_ n4_ n5_; (try clear hb); (try clear hb2); (try clear hk); (try clear hi); (try clear ho0)) | ((with_reducible refine gate_dst (N := 14) rfl ?_); (try (refine gate_guard (by rfl) ?_; dsimp only)); refine box_event ?hg (N := 14) ?hd (cs := #[.int .i64 0, .slice none 0 0]) (t := 27) ?hr ?_; (case hd => rfl); (case hg => rfl); (case hr => first | (go_simp; done) | (go_simp; rfl)); intro gb476 hg w30 hbox hb; have n0_ := Aside0.mk (Kd.R_below (by (with_reducible repeat (first | apply Kd.R_alloc | apply Kd.R_drewN | apply Kd.R_drew)); exact HO461.out) hb); have n1_ := Aside0.mk (Kd.R_below (by (with_reducible repeat (first | apply Kd.R_alloc | apply Kd.R_drewN | apply Kd.R_drew)); exact HO468.out) hb); have n2_ := Aside0.mk (Kd.R_below (by (with_reducible repeat (first | apply Kd.R_alloc | apply Kd.R_drewN | apply Kd.R_drew)); exact HO474.out) hb); have n3_ := Aside0.mk (blk_below (g := gb462) (o := .cells #[.int .i64 t458, .slice Ao17 t459.length co17] 27 (0, 0)) (by (with_reducible repeat (first | refine blk_drewN ?_ _ | refine blk_drew ?_ | refine blk_alloc ?_ _)); exact BK462.out) hb); have n4_ := Aside0.mk (blk_below (g := gb470) (o := .cells #[.int .i64 t465, .slice Ao25 t466.length co25] 27 (0, 0)) (by (with_reducible repeat (first | refine blk_drewN ?_ _ | refine blk_drew ?_ | refine blk_alloc ?_ _)); exact BK470.out) hb); have n5_ := Aside0.mk (below_step (by repeat (first | (with_reducible first | exact HB.out | apply below_alloc | apply pw_below_drewN | apply below_drew1 | refine below_set ?_ GE462.out | refine below_set ?_ GE470.out) | exact HB.out)) hb); have n6_ := Aside0.mk (hbox); have n7_ := Aside0.mk ((by rw [hg]; exact (below_size (by repeat (first | (with_reducible first | exact HB.out | apply below_alloc | apply pw_below_drewN | apply below_drew1 | refine below_set ?_ GE462.out | refine below_set ?_ GE470.out) | exact HB.out))) : w.heap.size ≤ gb476)); have n8_ := Aside0.mk ((by rw [hg]; exact (below_size (by repeat (first | (with_reducible first | exact HB.out | apply below_alloc | apply pw_below_drewN | apply below_drew1 | refine below_set ?_ GE462.out | refine below_set ?_ GE470.out) | exact HB.out))) : w.heap.size ≤ gb476)); have n9_ := Aside0.mk ((by rw [hg]; exact Nat.ne_of_lt (blk_lt (g := gb462) (o := .cells #[.int .i64 t458, .slice Ao17 t459.length co17] 27 (0, 0)) (by (with_reducible repeat (first | refine blk_drewN ?_ _ | refine blk_drew ?_ | refine blk_alloc ?_ _)); exact BK462.out)) : gb462 ≠ gb476)); have n10_ := Aside0.mk ((by rw [hg]; exact Nat.ne_of_gt (blk_lt (g := gb462) (o := .cells #[.int .i64 t458, .slice Ao17 t459.length co17] 27 (0, 0)) (by (with_reducible repeat (first | refine blk_drewN ?_ _ | refine blk_drew ?_ | refine blk_alloc ?_ _)); exact BK462.out)) : gb476 ≠ gb462)); have n11_ := Aside0.mk ((by rw [hg]; exact Nat.ne_of_lt (blk_lt (g := gb470) (o := .cells #[.int .i64 t465, .slice Ao25 t466.length co25] 27 (0, 0)) (by (with_reducible repeat (first | refine blk_drewN ?_ _ | refine blk_drew ?_ | refine blk_alloc ?_ _)); exact BK470.out)) : gb470 ≠ gb476)); have n12_ := Aside0.mk ((by rw [hg]; exact Nat.ne_of_gt (blk_lt (g := gb470) (o := .cells #[.int .i64 t465, .slice Ao25 t466.length co25] 27 (0, 0)) (by (with_reducible repeat (first | refine blk_drewN ?_ _ | refine blk_drew ?_ | refine blk_alloc ?_ _)); exact BK470.out)) : gb476 ≠ gb470)); clear HO461; clear HO468; clear HO474; clear BK462; clear BK470; clear HB; have HO461 := n0_; have HO468 := n1_; have HO474 := n2_; have BK462 := n3_; have BK470 := n4_; have HB := n5_; have BK476 := n6_; have GW476 := n7_; have GE476 := n8_; have NB462_476 := n9_; have NB476_462 := n10_; have NB470_476 := n11_; have NB476_470 := n12_; clear n0_ n1_ n2_ n3_ n4_ n5_ n6_ n7_ n8_ n9_ n10_ n11_ n12_; clear hb hbox hg; have hnb31 := NB476_462.out; have hnc31 := NB462_476.out; have hnb32 := NB476_470.out; have hnc32 := NB470_476.out; have hcz33_0 : w30.cell? ⟨gb476, 0, none⟩ = some (.int .i64 0) := (blk_cell BK476.out 0).trans rfl; have hcz33_1 : w30.cell? ⟨gb476, 1, none⟩ = some (.slice none 0 0) := (blk_cell BK476.out 1).trans rfl; have hfz33_0 := blk_frozen BK476.out 0; have hfz33_1 := blk_frozen BK476.out 1; obtain ⟨Ao34, co34, eo34⟩ := Kd.R_slice HO474.out; subst eo34))
  (try simp only [Act.put, List.setIfInBounds_toArray, List.set_cons_zero, List.set_cons_succ])
  go_cut [68] (fun v68 wc => ∃ (kq : Nat) (x68_11 : Bool), v68 = .bool x68_11 ∧ Aside0 (rootcellarlaw9_CellPut.j0 kq t463 a3 (wrap64 (1 + t457)) x68_11 t458 t459 t465 t466 t471 t472 = some r) ∧ Aside0 (kq ≤ k) ∧ Aside0 (Kd.R k51 51 wc w.heap.size (fun k_ => some k_ ≠ ((.slice Ao25 t466.length co25) : Value).ownBlock ∧ some k_ ≠ ((.slice Ao34 t472.length co34) : Value).ownBlock) (.slice Ao17 t459.length co17) t459) ∧ Aside0 (Kd.R k51 51 wc w.heap.size (fun k_ => some k_ ≠ ((.slice Ao17 t459.length co17) : Value).ownBlock ∧ some k_ ≠ ((.slice Ao34 t472.length co34) : Value).ownBlock) (.slice Ao25 t466.length co25) t466) ∧ Aside0 (Kd.R k51 51 wc w.heap.size (fun k_ => some k_ ≠ ((.slice Ao17 t459.length co17) : Value).ownBlock ∧ some k_ ≠ ((.slice Ao25 t466.length co25) : Value).ownBlock) (.slice Ao34 t472.length co34) t472) ∧ Aside0 (wc.heap[gb462]? = some (.cells #[.int .i64 t458, (.slice Ao17 t459.length co17)] 27 (0, 0))) ∧ Aside0 (wc.heap[gb470]? = some (.cells #[.int .i64 t465, (.slice Ao25 t466.length co25)] 27 (0, 0))) ∧ Aside0 (wc.heap[gb476]? = some (.cells #[.int .i64 t471, (.slice Ao34 t472.length co34)] 27 (0, 0))) ∧ Aside0 (Below w.heap.size w wc))
  case first =>
    have H := HC12.out
    clear HC12
    by_cases c35 : t456 = true
    · subst c35
      have H1 : (if t469 = 0 then (if t475 = 0 then ((cell_Right.f t465 t466).bind fun t477 => (if t477 = true then ((cell_Right.f t471 t472).bind fun t478 => (rootcellarlaw9_CellPut.j0 k t463 a3 (wrap64 (1 + t457)) (!t478) t458 t459 t465 t466 t471 t472)) else (none))) else (none)) else (none)) = some r := by rw [if_pos rfl] at H; exact H
      clear H
      have H := H1
      clear H1
      by_cases c36 : t469 = 0
      · rw [if_pos c36] at H
        have c36b0 : (t469 == 0) = true := beq_iff_eq.mpr c36
        have c36b1 : (t469 != 0) = false := bne_eq_false_iff_eq.mpr c36
        clear c36
        (first | rw [c36b0] | (simp only [i64_w, i32_w]; rw [c36b0]) | skip)
        by_cases c37 : t475 = 0
        · rw [if_pos c37] at H
          have c37b0 : (t475 == 0) = true := beq_iff_eq.mpr c37
          have c37b1 : (t475 != 0) = false := bne_eq_false_iff_eq.mpr c37
          clear c37
          replace H := Option.bind_eq_some_iff.mp H
          obtain ⟨t477, A380, H⟩ := H
          replace H : (if t477 = true then ((cell_Right.f t471 t472).bind fun t478 => (rootcellarlaw9_CellPut.j0 k t463 a3 (wrap64 (1 + t457)) (!t478) t458 t459 t465 t466 t471 t472)) else (none)) = some r := H
          have A38 := Aside0.mk A380
          clear A380
          by_cases c39 : t477 = true
          · subst c39
            have H1 : ((cell_Right.f t471 t472).bind fun t478 => (rootcellarlaw9_CellPut.j0 k t463 a3 (wrap64 (1 + t457)) (!t478) t458 t459 t465 t466 t471 t472)) = some r := by rw [if_pos rfl] at H; exact H
            clear H
            have H := H1
            clear H1
            replace H := Option.bind_eq_some_iff.mp H
            obtain ⟨t478, A400, H⟩ := H
            replace H : (rootcellarlaw9_CellPut.j0 k t463 a3 (wrap64 (1 + t457)) (!t478) t458 t459 t465 t466 t471 t472) = some r := H
            have A40 := Aside0.mk A400
            clear A400
            have H' := Aside0.mk H
            clear H
            have hnb41 := NB470_462.out
            have hnc41 := NB462_470.out
            have hnb42 := NB470_476.out
            have hnc42 := NB476_470.out
            have hcz43_0 : w30.cell? ⟨gb470, 0, none⟩ = some (.int .i64 t465) := (blk_cell BK470.out 0).trans rfl
            have hcz43_1 : w30.cell? ⟨gb470, 1, none⟩ = some (.slice Ao25 t466.length co25) := (blk_cell BK470.out 1).trans rfl
            have hfz43_0 := blk_frozen BK470.out 0
            have hfz43_1 := blk_frozen BK470.out 1
            go_wp2_with (first | (go_at_call 16; (with_reducible refine (cell_Right.calls t465 _ _ t466 true _ ?side1 ?side2 A38.out).mono ?_); (case side1 => refine (Kd.R_reads' (e := 51) (base := w.heap.size) (ok := fun k_ => (some k_ ≠ (.slice Ao17 t459.length co17 : Value).ownBlock ∧ some k_ ≠ (.slice Ao34 t472.length co34 : Value).ownBlock)) (n := t466.length) (c := co25) ?_).2.2; exact (by (with_reducible repeat (first | apply Kd.R_alloc | apply Kd.R_drewN | apply Kd.R_drew)); exact (Kd.R_mono (Kd.R_far (p := ⟨gb476, 1, none⟩) (Kd.R_far (p := ⟨gb476, 0, none⟩) (Kd.R_types HO468.out BK476.out (by decide)) (fun _ hk => hk.2) (.int .i64 t471)) (fun _ hk => hk.2) (.slice Ao34 t472.length co34)) (fun _ h_ => h_.1)))); (case side2 => exact (Kd.R_reads' HO468.out).2.1); rintro e w44 ⟨rfl, hb⟩; have n0_ := Aside0.mk (Kd.R_below (by (with_reducible repeat (first | apply Kd.R_alloc | apply Kd.R_drewN | apply Kd.R_drew)); exact (Kd.R_mono (Kd.R_far (p := ⟨gb476, 1, none⟩) (Kd.R_far (p := ⟨gb476, 0, none⟩) (Kd.R_types HO461.out BK476.out (by decide)) (fun _ hk => hk.2) (.int .i64 t471)) (fun _ hk => hk.2) (.slice Ao34 t472.length co34)) (fun _ h_ => h_.1))) hb); have n1_ := Aside0.mk (Kd.R_below (by (with_reducible repeat (first | apply Kd.R_alloc | apply Kd.R_drewN | apply Kd.R_drew)); exact (Kd.R_mono (Kd.R_far (p := ⟨gb476, 1, none⟩) (Kd.R_far (p := ⟨gb476, 0, none⟩) (Kd.R_types HO468.out BK476.out (by decide)) (fun _ hk => hk.2) (.int .i64 t471)) (fun _ hk => hk.2) (.slice Ao34 t472.length co34)) (fun _ h_ => h_.1))) hb); have n2_ := Aside0.mk (Kd.R_below (by (with_reducible repeat (first | apply Kd.R_alloc | apply Kd.R_drewN | apply Kd.R_drew)); exact (Kd.R_mono (Kd.R_far (p := ⟨gb476, 1, none⟩) (Kd.R_far (p := ⟨gb476, 0, none⟩) (Kd.R_types HO474.out BK476.out (by decide)) (fun _ hk => hk.2) (.int .i64 t471)) (fun _ hk => hk.2) (.slice Ao34 t472.length co34)) (fun _ h_ => h_.1))) hb); have n3_ := Aside0.mk (blk_below (g := gb462) (o := .cells #[.int .i64 t458, .slice Ao17 t459.length co17] 27 (0, 0)) (by (with_reducible repeat (first | refine blk_drewN ?_ _ | refine blk_drew ?_ | refine blk_alloc ?_ _)); refine blk_far ?_ NB462_476.out _; (with_reducible repeat (first | refine blk_drewN ?_ _ | refine blk_drew ?_ | refine blk_alloc ?_ _)); refine blk_far ?_ NB462_476.out _; (with_reducible repeat (first | refine blk_drewN ?_ _ | refine blk_drew ?_ | refine blk_alloc ?_ _)); exact BK462.out) hb); have n4_ := Aside0.mk (blk_below (g := gb470) (o := .cells #[.int .i64 t465, .slice Ao25 t466.length co25] 27 (0, 0)) (by (with_reducible repeat (first | refine blk_drewN ?_ _ | refine blk_drew ?_ | refine blk_alloc ?_ _)); refine blk_far ?_ NB470_476.out _; (with_reducible repeat (first | refine blk_drewN ?_ _ | refine blk_drew ?_ | refine blk_alloc ?_ _)); refine blk_far ?_ NB470_476.out _; (with_reducible repeat (first | refine blk_drewN ?_ _ | refine blk_drew ?_ | refine blk_alloc ?_ _)); exact BK470.out) hb); have n5_ := Aside0.mk (blk_below (g := gb476) (o := .cells #[.int .i64 t471, .slice Ao34 t472.length co34] 27 (0, 0)) (by (with_reducible repeat (first | refine blk_drewN ?_ _ | refine blk_drew ?_ | refine blk_alloc ?_ _)); refine blk_put (cs := #[.int .i64 t471, .slice none 0 0]) ?_ 1 _ rfl; (with_reducible repeat (first | refine blk_drewN ?_ _ | refine blk_drew ?_ | refine blk_alloc ?_ _)); refine blk_put (cs := #[.int .i64 0, .slice none 0 0]) ?_ 0 _ rfl; (with_reducible repeat (first | refine blk_drewN ?_ _ | refine blk_drew ?_ | refine blk_alloc ?_ _)); exact BK476.out) hb); have n6_ := Aside0.mk (below_step (by repeat (first | (with_reducible first | exact HB.out | apply below_alloc | apply pw_below_drewN | apply below_drew1 | refine below_set ?_ GE462.out | refine below_set ?_ GE470.out | refine below_set ?_ GE476.out) | exact HB.out)) hb); clear HO461; clear HO468; clear HO474; clear BK462; clear BK470; clear BK476; clear HB; have HO461 := n0_; have HO468 := n1_; have HO474 := n2_; have BK462 := n3_; have BK470 := n4_; have BK476 := n5_; have HB := n6_; clear n0_ n1_ n2_ n3_ n4_ n5_ n6_; (try clear hb); (try clear hb2); (try clear hk); (try clear hi); have hnb45 := NB476_462.out; have hnc45 := NB462_476.out; have hcz46_0 : w44.cell? ⟨gb476, 0, none⟩ = some (.int .i64 t471) := (blk_cell BK476.out 0).trans rfl; have hcz46_1 : w44.cell? ⟨gb476, 1, none⟩ = some (.slice Ao34 t472.length co34) := (blk_cell BK476.out 1).trans rfl; have hfz46_0 := blk_frozen BK476.out 0; have hfz46_1 := blk_frozen BK476.out 1) | (go_at_call 16; (with_reducible refine (cell_Right.calls t471 _ _ t472 t478 _ ?side1 ?side2 A40.out).mono ?_); (case side1 => repeat (first | exact (Kd.R_reads' HO474.out).2.2 | (with_reducible refine Kd.C_alloc ?_ _) | (with_reducible refine Kd.C_drewN ?_ _) | (with_reducible refine Kd.C_drew ?_))); (case side2 => exact (Kd.R_reads' HO474.out).2.1); rintro e w47 ⟨rfl, hb⟩; have n0_ := Aside0.mk (Kd.R_below (by (with_reducible repeat (first | apply Kd.R_alloc | apply Kd.R_drewN | apply Kd.R_drew)); exact HO461.out) hb); have n1_ := Aside0.mk (Kd.R_below (by (with_reducible repeat (first | apply Kd.R_alloc | apply Kd.R_drewN | apply Kd.R_drew)); exact HO468.out) hb); have n2_ := Aside0.mk (Kd.R_below (by (with_reducible repeat (first | apply Kd.R_alloc | apply Kd.R_drewN | apply Kd.R_drew)); exact HO474.out) hb); have n3_ := Aside0.mk (blk_below (g := gb462) (o := .cells #[.int .i64 t458, .slice Ao17 t459.length co17] 27 (0, 0)) (by (with_reducible repeat (first | refine blk_drewN ?_ _ | refine blk_drew ?_ | refine blk_alloc ?_ _)); exact BK462.out) hb); have n4_ := Aside0.mk (blk_below (g := gb470) (o := .cells #[.int .i64 t465, .slice Ao25 t466.length co25] 27 (0, 0)) (by (with_reducible repeat (first | refine blk_drewN ?_ _ | refine blk_drew ?_ | refine blk_alloc ?_ _)); exact BK470.out) hb); have n5_ := Aside0.mk (blk_below (g := gb476) (o := .cells #[.int .i64 t471, .slice Ao34 t472.length co34] 27 (0, 0)) (by (with_reducible repeat (first | refine blk_drewN ?_ _ | refine blk_drew ?_ | refine blk_alloc ?_ _)); exact BK476.out) hb); have n6_ := Aside0.mk (below_step (by repeat (first | (with_reducible first | exact HB.out | apply below_alloc | apply pw_below_drewN | apply below_drew1 | refine below_set ?_ GE462.out | refine below_set ?_ GE470.out | refine below_set ?_ GE476.out) | exact HB.out)) hb); clear HO461; clear HO468; clear HO474; clear BK462; clear BK470; clear BK476; clear HB; have HO461 := n0_; have HO468 := n1_; have HO474 := n2_; have BK462 := n3_; have BK470 := n4_; have BK476 := n5_; have HB := n6_; clear n0_ n1_ n2_ n3_ n4_ n5_ n6_; (try clear hb); (try clear hb2); (try clear hk); (try clear hi)))
            go_meet
            case rel => exact ⟨_, (!t478), (by first | rfl | (simp; done) | (simp [*]; done)), H', ⟨by first | omega | exact Nat.le_refl _⟩, ⟨by (with_reducible repeat (first | apply Kd.R_alloc | apply Kd.R_drewN | apply Kd.R_drew)); exact HO461.out⟩, ⟨by (with_reducible repeat (first | apply Kd.R_alloc | apply Kd.R_drewN | apply Kd.R_drew)); exact HO468.out⟩, ⟨by (with_reducible repeat (first | apply Kd.R_alloc | apply Kd.R_drewN | apply Kd.R_drew)); exact Kd.R_mono HO474.out (fun _ hk => ⟨hk.1.2, hk.2⟩)⟩, ⟨by (with_reducible repeat (first | refine blk_drewN ?_ _ | refine blk_drew ?_ | refine blk_alloc ?_ _)); exact BK462.out⟩, ⟨by (with_reducible repeat (first | refine blk_drewN ?_ _ | refine blk_drew ?_ | refine blk_alloc ?_ _)); exact BK470.out⟩, ⟨by (with_reducible repeat (first | refine blk_drewN ?_ _ | refine blk_drew ?_ | refine blk_alloc ?_ _)); exact BK476.out⟩, ⟨by repeat (first | (with_reducible first | exact HB.out | apply below_alloc | apply pw_below_drewN | apply below_drew1 | refine below_set ?_ GE462.out | refine below_set ?_ GE470.out | refine below_set ?_ GE476.out) | exact HB.out)⟩⟩
          · replace c39 := Bool.eq_false_iff.mpr c39
            subst c39
            have H1 : (none) = some r := by rw [if_neg (show ¬ (false = true) by decide)] at H; exact H
            clear H
            have H := H1
            clear H1
            exact absurd H (by simp)
        · rw [if_neg c37] at H
          exact absurd H (by simp)
      · rw [if_neg c36] at H
        exact absurd H (by simp)
    · replace c35 := Bool.eq_false_iff.mpr c35
      subst c35
      have H1 : (none) = some r := by rw [if_neg (show ¬ (false = true) by decide)] at H; exact H
      clear H
      have H := H1
      clear H1
      exact absurd H (by simp)
  case rest =>
    clear HC12
    try clear c1
    try clear c2
    try clear p2
    try clear c3
    try clear c4
    try clear p6
    try clear c7
    try clear c8
    try clear c9
    try clear c10
    try clear c14
    try clear c15
    try clear c23
    try clear c27
    try clear c31
    try clear c32
    try clear c35
    try clear c36
    try clear c36b0
    try clear c36b1
    try clear c37
    try clear c37b0
    try clear c37b1
    try clear c39
    try clear c41
    try clear c42
    try clear c45
    try clear hcz16_0
    try clear hcz16_1
    try clear hcz28_0
    try clear hcz28_1
    try clear hcz33_0
    try clear hcz33_1
    try clear hcz43_0
    try clear hcz43_1
    try clear hcz46_0
    try clear hcz46_1
    try clear hfz16_0
    try clear hfz16_1
    try clear hfz28_0
    try clear hfz28_1
    try clear hfz33_0
    try clear hfz33_1
    try clear hfz43_0
    try clear hfz43_1
    try clear hfz46_0
    try clear hfz46_1
    obtain ⟨kq, x68_11, rfl, HA, HJ11, HO_463001, HO_471001, HO_477001, BK462, BK470, BK476, HB⟩ := hcut
    cases kq with
    | zero => exact absurd HA.out (by simp [rootcellarlaw9_CellPut.j0])
    | succ kj11 =>
      have H := HA.out
      clear HA
      simp only [rootcellarlaw9_CellPut.j0] at H
      by_cases c48 : x68_11 = true
      · subst c48
        have H1 : (none) = some r := by rw [if_pos rfl] at H; exact H
        clear H
        have H := H1
        clear H1
        exact absurd H (by simp)
      · replace c48 := Bool.eq_false_iff.mpr c48
        subst c48
        have H1 : (rootcellarlaw9_CellPut.l0 kj11 t463 a3 (wrap64 (1 + t457)) 0 t458 t459 t465 t466 t471 t472) = some r := by rw [if_neg (show ¬ (false = true) by decide)] at H; exact H
        clear H
        have H := H1
        clear H1
        have H' := Aside0.mk H
        clear H
        go_wp2
        go_loopg [16] kj11 (fun kq v16 w' => ∃ (x16_2 : Int), v16 = .int .i64 x16_2 ∧ Aside0 (rootcellarlaw9_CellPut.l0 kq t463 a3 (wrap64 (1 + t457)) x16_2 t458 t459 t465 t466 t471 t472 = some r) ∧ Aside0 (kq ≤ kj11) ∧ Aside0 (Kd.R k51 51 w' w.heap.size (fun k_ => some k_ ≠ ((.slice Ao25 t466.length co25) : Value).ownBlock ∧ some k_ ≠ ((.slice Ao34 t472.length co34) : Value).ownBlock) (.slice Ao17 t459.length co17) t459) ∧ Aside0 (Kd.R k51 51 w' w.heap.size (fun k_ => some k_ ≠ ((.slice Ao17 t459.length co17) : Value).ownBlock ∧ some k_ ≠ ((.slice Ao34 t472.length co34) : Value).ownBlock) (.slice Ao25 t466.length co25) t466) ∧ Aside0 (Kd.R k51 51 w' w.heap.size (fun k_ => some k_ ≠ ((.slice Ao17 t459.length co17) : Value).ownBlock ∧ some k_ ≠ ((.slice Ao25 t466.length co25) : Value).ownBlock) (.slice Ao34 t472.length co34) t472) ∧ Aside0 (w'.heap[gb462]? = some (.cells #[.int .i64 t458, (.slice Ao17 t459.length co17)] 27 (0, 0))) ∧ Aside0 (w'.heap[gb470]? = some (.cells #[.int .i64 t465, (.slice Ao25 t466.length co25)] 27 (0, 0))) ∧ Aside0 (w'.heap[gb476]? = some (.cells #[.int .i64 t471, (.slice Ao34 t472.length co34)] 27 (0, 0))) ∧ Aside0 (Below w.heap.size w w'))
        case atStart => exact ⟨(0), (by first | rfl | (simp; done) | (simp [*]; done)), H', ⟨Nat.le_refl _⟩, ⟨by (with_reducible repeat (first | apply Kd.R_alloc | apply Kd.R_drewN | apply Kd.R_drew)); exact HO_463001.out⟩, ⟨by (with_reducible repeat (first | apply Kd.R_alloc | apply Kd.R_drewN | apply Kd.R_drew)); exact HO_471001.out⟩, ⟨by (with_reducible repeat (first | apply Kd.R_alloc | apply Kd.R_drewN | apply Kd.R_drew)); exact HO_477001.out⟩, ⟨by (with_reducible repeat (first | refine blk_drewN ?_ _ | refine blk_drew ?_ | refine blk_alloc ?_ _)); exact BK462.out⟩, ⟨by (with_reducible repeat (first | refine blk_drewN ?_ _ | refine blk_drew ?_ | refine blk_alloc ?_ _)); exact BK470.out⟩, ⟨by (with_reducible repeat (first | refine blk_drewN ?_ _ | refine blk_drew ?_ | refine blk_alloc ?_ _)); exact BK476.out⟩, ⟨by repeat (first | (with_reducible first | exact HB.out | apply below_alloc | apply pw_below_drewN | apply below_drew1 | refine below_set ?_ GE462.out | refine below_set ?_ GE470.out | refine below_set ?_ GE476.out) | exact HB.out)⟩⟩
        case round =>
          clear H'
          try clear c1
          try clear c2
          try clear p2
          try clear c3
          try clear c4
          try clear p6
          try clear c7
          try clear c8
          try clear c9
          try clear c10
          try clear c14
          try clear c15
          try clear c23
          try clear c27
          try clear c31
          try clear c32
          try clear c35
          try clear c36
          try clear c36b0
          try clear c36b1
          try clear c37
          try clear c37b0
          try clear c37b1
          try clear c39
          try clear c41
          try clear c42
          try clear c45
          try clear c48
          try clear hcz16_0
          try clear hcz16_1
          try clear hcz28_0
          try clear hcz28_1
          try clear hcz33_0
          try clear hcz33_1
          try clear hcz43_0
          try clear hcz43_1
          try clear hcz46_0
          try clear hcz46_1
          try clear hfz16_0
          try clear hfz16_1
          try clear hfz28_0
          try clear hfz28_1
          try clear hfz33_0
          try clear hfz33_1
          try clear hfz43_0
          try clear hfz43_1
          try clear hfz46_0
          try clear hfz46_1
          try clear p2
          try clear p6
          obtain ⟨x16_2, rfl, HA, HK2, HO_463001, HO_471001, HO_477001, BK462, BK470, BK476, HB⟩ := hrel
          cases gk with
          | zero => exact absurd HA.out (by simp [rootcellarlaw9_CellPut.l0])
          | succ k2 =>
            have H := HA.out
            clear HA
            simp only [rootcellarlaw9_CellPut.l0] at H
            by_cases c49 : x16_2 < (wrap64 (1 + t457))
            · rw [if_pos c49] at H
              have c49b0 : decide (x16_2 < (wrap64 (1 + t457))) = true := decide_eq_true c49
              clear c49
              replace H := Option.bind_eq_some_iff.mp H
              obtain ⟨⟨t479, t480⟩, A500, H⟩ := H
              replace H : ((cell_Get.f t465 t466 x16_2).bind fun bt481 => ((cell_Get.f t471 t472 x16_2).bind fun bt483 => (if x16_2 = t463 then ((rootcellarlaw9_cluster.f k2 a3).bind fun t485 => (if bt481.1.toList = t485.toList then (if bt481.2 = true then (if bt483.2 = true then (none) else (if bt483.1.toList = ([] : List UInt8) then (rootcellarlaw9_CellPut.l0 k2 t463 a3 (wrap64 (1 + t457)) (wrap64 (x16_2 + 1)) t458 t459 t465 t466 t471 t472) else (none))) else (none)) else (none))) else (if t479.toList = bt481.1.toList then (if (t480 != bt481.2) = true then (none) else (if t479.toList = bt483.1.toList then (if (t480 != bt483.2) = true then (none) else (rootcellarlaw9_CellPut.l0 k2 t463 a3 (wrap64 (1 + t457)) (wrap64 (x16_2 + 1)) t458 t459 t465 t466 t471 t472)) else (none))) else (none))))) = some r := H
              have A50 := Aside0.mk A500
              clear A500
              replace H := Option.bind_eq_some_iff.mp H
              obtain ⟨⟨t481, t482⟩, A510, H⟩ := H
              replace H : ((cell_Get.f t471 t472 x16_2).bind fun bt483 => (if x16_2 = t463 then ((rootcellarlaw9_cluster.f k2 a3).bind fun t485 => (if t481.toList = t485.toList then (if t482 = true then (if bt483.2 = true then (none) else (if bt483.1.toList = ([] : List UInt8) then (rootcellarlaw9_CellPut.l0 k2 t463 a3 (wrap64 (1 + t457)) (wrap64 (x16_2 + 1)) t458 t459 t465 t466 t471 t472) else (none))) else (none)) else (none))) else (if t479.toList = t481.toList then (if (t480 != t482) = true then (none) else (if t479.toList = bt483.1.toList then (if (t480 != bt483.2) = true then (none) else (rootcellarlaw9_CellPut.l0 k2 t463 a3 (wrap64 (1 + t457)) (wrap64 (x16_2 + 1)) t458 t459 t465 t466 t471 t472)) else (none))) else (none)))) = some r := H
              have A51 := Aside0.mk A510
              clear A510
              replace H := Option.bind_eq_some_iff.mp H
              obtain ⟨⟨t483, t484⟩, A520, H⟩ := H
              replace H : (if x16_2 = t463 then ((rootcellarlaw9_cluster.f k2 a3).bind fun t485 => (if t481.toList = t485.toList then (if t482 = true then (if t484 = true then (none) else (if t483.toList = ([] : List UInt8) then (rootcellarlaw9_CellPut.l0 k2 t463 a3 (wrap64 (1 + t457)) (wrap64 (x16_2 + 1)) t458 t459 t465 t466 t471 t472) else (none))) else (none)) else (none))) else (if t479.toList = t481.toList then (if (t480 != t482) = true then (none) else (if t479.toList = t483.toList then (if (t480 != t484) = true then (none) else (rootcellarlaw9_CellPut.l0 k2 t463 a3 (wrap64 (1 + t457)) (wrap64 (x16_2 + 1)) t458 t459 t465 t466 t471 t472)) else (none))) else (none))) = some r := H
              have A52 := Aside0.mk A520
              clear A520
              by_cases c53 : x16_2 = t463
              · rw [if_pos c53] at H
                have c53b0 : (x16_2 == t463) = true := beq_iff_eq.mpr c53
                have c53b1 : (x16_2 != t463) = false := bne_eq_false_iff_eq.mpr c53
                clear c53
                replace H := Option.bind_eq_some_iff.mp H
                obtain ⟨t485, A540, H⟩ := H
                replace H : (if t481.toList = t485.toList then (if t482 = true then (if t484 = true then (none) else (if t483.toList = ([] : List UInt8) then (rootcellarlaw9_CellPut.l0 k2 t463 a3 (wrap64 (1 + t457)) (wrap64 (x16_2 + 1)) t458 t459 t465 t466 t471 t472) else (none))) else (none)) else (none)) = some r := H
                have A54 := Aside0.mk A540
                clear A540
                by_cases c55 : t481.toList = t485.toList
                · rw [if_pos c55] at H
                  have c55b0 : (t481.toList == t485.toList) = true := beq_iff_eq.mpr c55
                  have c55b1 : (t481.toList != t485.toList) = false := bne_eq_false_iff_eq.mpr c55
                  clear c55
                  by_cases c56 : t482 = true
                  · subst c56
                    have H1 : (if t484 = true then (none) else (if t483.toList = ([] : List UInt8) then (rootcellarlaw9_CellPut.l0 k2 t463 a3 (wrap64 (1 + t457)) (wrap64 (x16_2 + 1)) t458 t459 t465 t466 t471 t472) else (none))) = some r := by rw [if_pos rfl] at H; exact H
                    clear H
                    have H := H1
                    clear H1
                    by_cases c57 : t484 = true
                    · subst c57
                      have H1 : (none) = some r := by rw [if_pos rfl] at H; exact H
                      clear H
                      have H := H1
                      clear H1
                      exact absurd H (by simp)
                    · replace c57 := Bool.eq_false_iff.mpr c57
                      subst c57
                      have H1 : (if t483.toList = ([] : List UInt8) then (rootcellarlaw9_CellPut.l0 k2 t463 a3 (wrap64 (1 + t457)) (wrap64 (x16_2 + 1)) t458 t459 t465 t466 t471 t472) else (none)) = some r := by rw [if_neg (show ¬ (false = true) by decide)] at H; exact H
                      clear H
                      have H := H1
                      clear H1
                      by_cases c58 : t483.toList = ([] : List UInt8)
                      · rw [if_pos c58] at H
                        have c58b0 : (t483.toList == ([] : List UInt8)) = true := beq_iff_eq.mpr c58
                        have c58b1 : (t483.toList != ([] : List UInt8)) = false := bne_eq_false_iff_eq.mpr c58
                        clear c58
                        have H' := Aside0.mk H
                        clear H
                        have hnb59 := NB462_470.out
                        have hnc59 := NB470_462.out
                        have hnb60 := NB462_476.out
                        have hnc60 := NB476_462.out
                        have hcz61_0 : wr.cell? ⟨gb462, 0, none⟩ = some (.int .i64 t458) := (blk_cell BK462.out 0).trans rfl
                        have hcz61_1 : wr.cell? ⟨gb462, 1, none⟩ = some (.slice Ao17 t459.length co17) := (blk_cell BK462.out 1).trans rfl
                        have hfz61_0 := blk_frozen BK462.out 0
                        have hfz61_1 := blk_frozen BK462.out 1
                        go_wp2_with (first | ((with_reducible refine gate_callee (f := 13) rfl ?_); refine goesL_ (some 77) rfl rfl Try.func13 (by kernel_rfl) rfl #[.agg #[.int .i64 t458, .slice Ao17 t459.length co17], .int .i64 x16_2] rfl (by (try simp only [List.map_toArray, List.map_cons, List.map_nil]); first | done | rfl | (simp only [List.length_drop, List.length_take]; rfl)) ?_; (with_reducible refine (cell_Get.calls t458 _ _ t459 x16_2 t479 t480 _ ?side1 ?side2 A50.out).mono ?_); (case side1 => repeat (first | exact (Kd.R_reads' HO_463001.out).2.2 | (with_reducible refine Kd.C_alloc ?_ _) | (with_reducible refine Kd.C_drewN ?_ _) | (with_reducible refine Kd.C_drew ?_))); (case side2 => exact (Kd.R_reads' HO_463001.out).2.1); rintro e w62 ⟨rfl, hb⟩; refine ⟨_, rfl, ?_⟩; have n0_ := Aside0.mk (Kd.R_below (by (with_reducible repeat (first | apply Kd.R_alloc | apply Kd.R_drewN | apply Kd.R_drew)); exact HO_463001.out) hb); have n1_ := Aside0.mk (Kd.R_below (by (with_reducible repeat (first | apply Kd.R_alloc | apply Kd.R_drewN | apply Kd.R_drew)); exact HO_471001.out) hb); have n2_ := Aside0.mk (Kd.R_below (by (with_reducible repeat (first | apply Kd.R_alloc | apply Kd.R_drewN | apply Kd.R_drew)); exact HO_477001.out) hb); have n3_ := Aside0.mk (blk_below (g := gb462) (o := .cells #[.int .i64 t458, .slice Ao17 t459.length co17] 27 (0, 0)) (by (with_reducible repeat (first | refine blk_drewN ?_ _ | refine blk_drew ?_ | refine blk_alloc ?_ _)); exact BK462.out) hb); have n4_ := Aside0.mk (blk_below (g := gb470) (o := .cells #[.int .i64 t465, .slice Ao25 t466.length co25] 27 (0, 0)) (by (with_reducible repeat (first | refine blk_drewN ?_ _ | refine blk_drew ?_ | refine blk_alloc ?_ _)); exact BK470.out) hb); have n5_ := Aside0.mk (blk_below (g := gb476) (o := .cells #[.int .i64 t471, .slice Ao34 t472.length co34] 27 (0, 0)) (by (with_reducible repeat (first | refine blk_drewN ?_ _ | refine blk_drew ?_ | refine blk_alloc ?_ _)); exact BK476.out) hb); have n6_ := Aside0.mk (below_step (by repeat (first | (with_reducible first | exact HB.out | apply below_alloc | apply pw_below_drewN | apply below_drew1 | refine below_set ?_ GE462.out | refine below_set ?_ GE470.out | refine below_set ?_ GE476.out) | exact HB.out)) hb); clear HO_463001; clear HO_471001; clear HO_477001; clear BK462; clear BK470; clear BK476; clear HB; have HO_463001 := n0_; have HO_471001 := n1_; have HO_477001 := n2_; have BK462 := n3_; have BK470 := n4_; have BK476 := n5_; have HB := n6_; clear n0_ n1_ n2_ n3_ n4_ n5_ n6_; (try clear hb); (try clear hb2); (try clear hk); (try clear hi); have hnb63 := NB470_476.out; have hnc63 := NB476_470.out; have hcz64_0 : w62.cell? ⟨gb470, 0, none⟩ = some (.int .i64 t465) := (blk_cell BK470.out 0).trans rfl; have hcz64_1 : w62.cell? ⟨gb470, 1, none⟩ = some (.slice Ao25 t466.length co25) := (blk_cell BK470.out 1).trans rfl; have hfz64_0 := blk_frozen BK470.out 0; have hfz64_1 := blk_frozen BK470.out 1) | ((with_reducible refine gate_callee (f := 13) rfl ?_); refine goesL_ (some 83) rfl rfl Try.func13 (by kernel_rfl) rfl #[.agg #[.int .i64 t465, .slice Ao25 t466.length co25], .int .i64 x16_2] rfl (by (try simp only [List.map_toArray, List.map_cons, List.map_nil]); first | done | rfl | (simp only [List.length_drop, List.length_take]; rfl)) ?_; (with_reducible refine (cell_Get.calls t465 _ _ t466 x16_2 t481 true _ ?side1 ?side2 A51.out).mono ?_); (case side1 => repeat (first | exact (Kd.R_reads' HO_471001.out).2.2 | (with_reducible refine Kd.C_alloc ?_ _) | (with_reducible refine Kd.C_drewN ?_ _) | (with_reducible refine Kd.C_drew ?_))); (case side2 => exact (Kd.R_reads' HO_471001.out).2.1); rintro e w65 ⟨rfl, hb⟩; refine ⟨_, rfl, ?_⟩; have n0_ := Aside0.mk (Kd.R_below (by (with_reducible repeat (first | apply Kd.R_alloc | apply Kd.R_drewN | apply Kd.R_drew)); exact HO_463001.out) hb); have n1_ := Aside0.mk (Kd.R_below (by (with_reducible repeat (first | apply Kd.R_alloc | apply Kd.R_drewN | apply Kd.R_drew)); exact HO_471001.out) hb); have n2_ := Aside0.mk (Kd.R_below (by (with_reducible repeat (first | apply Kd.R_alloc | apply Kd.R_drewN | apply Kd.R_drew)); exact HO_477001.out) hb); have n3_ := Aside0.mk (blk_below (g := gb462) (o := .cells #[.int .i64 t458, .slice Ao17 t459.length co17] 27 (0, 0)) (by (with_reducible repeat (first | refine blk_drewN ?_ _ | refine blk_drew ?_ | refine blk_alloc ?_ _)); exact BK462.out) hb); have n4_ := Aside0.mk (blk_below (g := gb470) (o := .cells #[.int .i64 t465, .slice Ao25 t466.length co25] 27 (0, 0)) (by (with_reducible repeat (first | refine blk_drewN ?_ _ | refine blk_drew ?_ | refine blk_alloc ?_ _)); exact BK470.out) hb); have n5_ := Aside0.mk (blk_below (g := gb476) (o := .cells #[.int .i64 t471, .slice Ao34 t472.length co34] 27 (0, 0)) (by (with_reducible repeat (first | refine blk_drewN ?_ _ | refine blk_drew ?_ | refine blk_alloc ?_ _)); exact BK476.out) hb); have n6_ := Aside0.mk (below_step (by repeat (first | (with_reducible first | exact HB.out | apply below_alloc | apply pw_below_drewN | apply below_drew1 | refine below_set ?_ GE462.out | refine below_set ?_ GE470.out | refine below_set ?_ GE476.out) | exact HB.out)) hb); clear HO_463001; clear HO_471001; clear HO_477001; clear BK462; clear BK470; clear BK476; clear HB; have HO_463001 := n0_; have HO_471001 := n1_; have HO_477001 := n2_; have BK462 := n3_; have BK470 := n4_; have BK476 := n5_; have HB := n6_; clear n0_ n1_ n2_ n3_ n4_ n5_ n6_; (try clear hb); (try clear hb2); (try clear hk); (try clear hi); have hcz66_0 : w65.cell? ⟨gb476, 0, none⟩ = some (.int .i64 t471) := (blk_cell BK476.out 0).trans rfl; have hcz66_1 : w65.cell? ⟨gb476, 1, none⟩ = some (.slice Ao34 t472.length co34) := (blk_cell BK476.out 1).trans rfl; have hfz66_0 := blk_frozen BK476.out 0; have hfz66_1 := blk_frozen BK476.out 1) | ((with_reducible refine gate_callee (f := 13) rfl ?_); refine goesL_ (some 89) rfl rfl Try.func13 (by kernel_rfl) rfl #[.agg #[.int .i64 t471, .slice Ao34 t472.length co34], .int .i64 x16_2] rfl (by (try simp only [List.map_toArray, List.map_cons, List.map_nil]); first | done | rfl | (simp only [List.length_drop, List.length_take]; rfl)) ?_; (with_reducible refine (cell_Get.calls t471 _ _ t472 x16_2 t483 false _ ?side1 ?side2 A52.out).mono ?_); (case side1 => repeat (first | exact (Kd.R_reads' HO_477001.out).2.2 | (with_reducible refine Kd.C_alloc ?_ _) | (with_reducible refine Kd.C_drewN ?_ _) | (with_reducible refine Kd.C_drew ?_))); (case side2 => exact (Kd.R_reads' HO_477001.out).2.1); rintro e w67 ⟨rfl, hb⟩; refine ⟨_, rfl, ?_⟩; have n0_ := Aside0.mk (Kd.R_below (by (with_reducible repeat (first | apply Kd.R_alloc | apply Kd.R_drewN | apply Kd.R_drew)); exact HO_463001.out) hb); have n1_ := Aside0.mk (Kd.R_below (by (with_reducible repeat (first | apply Kd.R_alloc | apply Kd.R_drewN | apply Kd.R_drew)); exact HO_471001.out) hb); have n2_ := Aside0.mk (Kd.R_below (by (with_reducible repeat (first | apply Kd.R_alloc | apply Kd.R_drewN | apply Kd.R_drew)); exact HO_477001.out) hb); have n3_ := Aside0.mk (blk_below (g := gb462) (o := .cells #[.int .i64 t458, .slice Ao17 t459.length co17] 27 (0, 0)) (by (with_reducible repeat (first | refine blk_drewN ?_ _ | refine blk_drew ?_ | refine blk_alloc ?_ _)); exact BK462.out) hb); have n4_ := Aside0.mk (blk_below (g := gb470) (o := .cells #[.int .i64 t465, .slice Ao25 t466.length co25] 27 (0, 0)) (by (with_reducible repeat (first | refine blk_drewN ?_ _ | refine blk_drew ?_ | refine blk_alloc ?_ _)); exact BK470.out) hb); have n5_ := Aside0.mk (blk_below (g := gb476) (o := .cells #[.int .i64 t471, .slice Ao34 t472.length co34] 27 (0, 0)) (by (with_reducible repeat (first | refine blk_drewN ?_ _ | refine blk_drew ?_ | refine blk_alloc ?_ _)); exact BK476.out) hb); have n6_ := Aside0.mk (below_step (by repeat (first | (with_reducible first | exact HB.out | apply below_alloc | apply pw_below_drewN | apply below_drew1 | refine below_set ?_ GE462.out | refine below_set ?_ GE470.out | refine below_set ?_ GE476.out) | exact HB.out)) hb); clear HO_463001; clear HO_471001; clear HO_477001; clear BK462; clear BK470; clear BK476; clear HB; have HO_463001 := n0_; have HO_471001 := n1_; have HO_477001 := n2_; have BK462 := n3_; have BK470 := n4_; have BK476 := n5_; have HB := n6_; clear n0_ n1_ n2_ n3_ n4_ n5_ n6_; (try clear hb); (try clear hb2); (try clear hk); (try clear hi)) | (go_at_call 14; (with_reducible refine (rootcellarlaw9_cluster.calls k2 a3 t485 _ A54.out).mono ?_); rintro e w68 ⟨rfl, hb⟩; have n0_ := Aside0.mk (Kd.R_below (by (with_reducible repeat (first | apply Kd.R_alloc | apply Kd.R_drewN | apply Kd.R_drew)); exact HO_463001.out) hb); have n1_ := Aside0.mk (Kd.R_below (by (with_reducible repeat (first | apply Kd.R_alloc | apply Kd.R_drewN | apply Kd.R_drew)); exact HO_471001.out) hb); have n2_ := Aside0.mk (Kd.R_below (by (with_reducible repeat (first | apply Kd.R_alloc | apply Kd.R_drewN | apply Kd.R_drew)); exact HO_477001.out) hb); have n3_ := Aside0.mk (blk_below (g := gb462) (o := .cells #[.int .i64 t458, .slice Ao17 t459.length co17] 27 (0, 0)) (by (with_reducible repeat (first | refine blk_drewN ?_ _ | refine blk_drew ?_ | refine blk_alloc ?_ _)); exact BK462.out) hb); have n4_ := Aside0.mk (blk_below (g := gb470) (o := .cells #[.int .i64 t465, .slice Ao25 t466.length co25] 27 (0, 0)) (by (with_reducible repeat (first | refine blk_drewN ?_ _ | refine blk_drew ?_ | refine blk_alloc ?_ _)); exact BK470.out) hb); have n5_ := Aside0.mk (blk_below (g := gb476) (o := .cells #[.int .i64 t471, .slice Ao34 t472.length co34] 27 (0, 0)) (by (with_reducible repeat (first | refine blk_drewN ?_ _ | refine blk_drew ?_ | refine blk_alloc ?_ _)); exact BK476.out) hb); have n6_ := Aside0.mk (below_step (by repeat (first | (with_reducible first | exact HB.out | apply below_alloc | apply pw_below_drewN | apply below_drew1 | refine below_set ?_ GE462.out | refine below_set ?_ GE470.out | refine below_set ?_ GE476.out) | exact HB.out)) hb); clear HO_463001; clear HO_471001; clear HO_477001; clear BK462; clear BK470; clear BK476; clear HB; have HO_463001 := n0_; have HO_471001 := n1_; have HO_477001 := n2_; have BK462 := n3_; have BK470 := n4_; have BK476 := n5_; have HB := n6_; clear n0_ n1_ n2_ n3_ n4_ n5_ n6_; (try clear hb); (try clear hb2); (try clear hk); (try clear hi)))
                        go_roundg k2
                        case measure => have := HJ11.out; have := HK2.out; omega
                        case rel => exact ⟨(wrap64 (x16_2 + 1)), (by first | rfl | (simp; done) | (simp [*]; done)), H', ⟨by have := HJ11.out; have := HK2.out; omega⟩, ⟨by (with_reducible repeat (first | apply Kd.R_alloc | apply Kd.R_drewN | apply Kd.R_drew)); exact HO_463001.out⟩, ⟨by (with_reducible repeat (first | apply Kd.R_alloc | apply Kd.R_drewN | apply Kd.R_drew)); exact HO_471001.out⟩, ⟨by (with_reducible repeat (first | apply Kd.R_alloc | apply Kd.R_drewN | apply Kd.R_drew)); exact HO_477001.out⟩, ⟨by (with_reducible repeat (first | refine blk_drewN ?_ _ | refine blk_drew ?_ | refine blk_alloc ?_ _)); exact BK462.out⟩, ⟨by (with_reducible repeat (first | refine blk_drewN ?_ _ | refine blk_drew ?_ | refine blk_alloc ?_ _)); exact BK470.out⟩, ⟨by (with_reducible repeat (first | refine blk_drewN ?_ _ | refine blk_drew ?_ | refine blk_alloc ?_ _)); exact BK476.out⟩, ⟨by repeat (first | (with_reducible first | exact HB.out | apply below_alloc | apply pw_below_drewN | apply below_drew1 | refine below_set ?_ GE462.out | refine below_set ?_ GE470.out | refine below_set ?_ GE476.out) | exact HB.out)⟩⟩
                      · rw [if_neg c58] at H
                        exact absurd H (by simp)
                  · replace c56 := Bool.eq_false_iff.mpr c56
                    subst c56
                    have H1 : (none) = some r := by rw [if_neg (show ¬ (false = true) by decide)] at H; exact H
                    clear H
                    have H := H1
                    clear H1
                    exact absurd H (by simp)
                · rw [if_neg c55] at H
                  exact absurd H (by simp)
              · rw [if_neg c53] at H
                have c53b0 : (x16_2 == t463) = false := beq_eq_false_iff_ne.mpr c53
                have c53b1 : (x16_2 != t463) = true := bne_iff_ne.mpr c53
                by_cases c69 : t479.toList = t481.toList
                · rw [if_pos c69] at H
                  have c69b0 : (t479.toList == t481.toList) = true := beq_iff_eq.mpr c69
                  have c69b1 : (t479.toList != t481.toList) = false := bne_eq_false_iff_eq.mpr c69
                  clear c69
                  by_cases c70 : (t480 != t482) = true
                  · rw [if_pos c70] at H
                    exact absurd H (by simp)
                  · rw [if_neg c70] at H
                    have c70b0 : (t480 != t482) = false := by simpa using c70
                    (try (have c70b1 : decide (t480 = t482) = true := by simpa using c70))
                    (try (have c70b2 : (t480 == t482) = true := by simpa using c70))
                    clear c70
                    by_cases c71 : t479.toList = t483.toList
                    · rw [if_pos c71] at H
                      have c71b0 : (t479.toList == t483.toList) = true := beq_iff_eq.mpr c71
                      have c71b1 : (t479.toList != t483.toList) = false := bne_eq_false_iff_eq.mpr c71
                      clear c71
                      by_cases c72 : (t480 != t484) = true
                      · rw [if_pos c72] at H
                        exact absurd H (by simp)
                      · rw [if_neg c72] at H
                        have c72b0 : (t480 != t484) = false := by simpa using c72
                        (try (have c72b1 : decide (t480 = t484) = true := by simpa using c72))
                        (try (have c72b2 : (t480 == t484) = true := by simpa using c72))
                        clear c72
                        have H' := Aside0.mk H
                        clear H
                        have hnb73 := NB462_470.out
                        have hnc73 := NB470_462.out
                        have hnb74 := NB462_476.out
                        have hnc74 := NB476_462.out
                        have hcz75_0 : wr.cell? ⟨gb462, 0, none⟩ = some (.int .i64 t458) := (blk_cell BK462.out 0).trans rfl
                        have hcz75_1 : wr.cell? ⟨gb462, 1, none⟩ = some (.slice Ao17 t459.length co17) := (blk_cell BK462.out 1).trans rfl
                        have hfz75_0 := blk_frozen BK462.out 0
                        have hfz75_1 := blk_frozen BK462.out 1
                        go_wp2_with (first | ((with_reducible refine gate_callee (f := 13) rfl ?_); refine goesL_ (some 77) rfl rfl Try.func13 (by kernel_rfl) rfl #[.agg #[.int .i64 t458, .slice Ao17 t459.length co17], .int .i64 x16_2] rfl (by (try simp only [List.map_toArray, List.map_cons, List.map_nil]); first | done | rfl | (simp only [List.length_drop, List.length_take]; rfl)) ?_; (with_reducible refine (cell_Get.calls t458 _ _ t459 x16_2 t479 t480 _ ?side1 ?side2 A50.out).mono ?_); (case side1 => repeat (first | exact (Kd.R_reads' HO_463001.out).2.2 | (with_reducible refine Kd.C_alloc ?_ _) | (with_reducible refine Kd.C_drewN ?_ _) | (with_reducible refine Kd.C_drew ?_))); (case side2 => exact (Kd.R_reads' HO_463001.out).2.1); rintro e w76 ⟨rfl, hb⟩; refine ⟨_, rfl, ?_⟩; have n0_ := Aside0.mk (Kd.R_below (by (with_reducible repeat (first | apply Kd.R_alloc | apply Kd.R_drewN | apply Kd.R_drew)); exact HO_463001.out) hb); have n1_ := Aside0.mk (Kd.R_below (by (with_reducible repeat (first | apply Kd.R_alloc | apply Kd.R_drewN | apply Kd.R_drew)); exact HO_471001.out) hb); have n2_ := Aside0.mk (Kd.R_below (by (with_reducible repeat (first | apply Kd.R_alloc | apply Kd.R_drewN | apply Kd.R_drew)); exact HO_477001.out) hb); have n3_ := Aside0.mk (blk_below (g := gb462) (o := .cells #[.int .i64 t458, .slice Ao17 t459.length co17] 27 (0, 0)) (by (with_reducible repeat (first | refine blk_drewN ?_ _ | refine blk_drew ?_ | refine blk_alloc ?_ _)); exact BK462.out) hb); have n4_ := Aside0.mk (blk_below (g := gb470) (o := .cells #[.int .i64 t465, .slice Ao25 t466.length co25] 27 (0, 0)) (by (with_reducible repeat (first | refine blk_drewN ?_ _ | refine blk_drew ?_ | refine blk_alloc ?_ _)); exact BK470.out) hb); have n5_ := Aside0.mk (blk_below (g := gb476) (o := .cells #[.int .i64 t471, .slice Ao34 t472.length co34] 27 (0, 0)) (by (with_reducible repeat (first | refine blk_drewN ?_ _ | refine blk_drew ?_ | refine blk_alloc ?_ _)); exact BK476.out) hb); have n6_ := Aside0.mk (below_step (by repeat (first | (with_reducible first | exact HB.out | apply below_alloc | apply pw_below_drewN | apply below_drew1 | refine below_set ?_ GE462.out | refine below_set ?_ GE470.out | refine below_set ?_ GE476.out) | exact HB.out)) hb); clear HO_463001; clear HO_471001; clear HO_477001; clear BK462; clear BK470; clear BK476; clear HB; have HO_463001 := n0_; have HO_471001 := n1_; have HO_477001 := n2_; have BK462 := n3_; have BK470 := n4_; have BK476 := n5_; have HB := n6_; clear n0_ n1_ n2_ n3_ n4_ n5_ n6_; (try clear hb); (try clear hb2); (try clear hk); (try clear hi); have hnb77 := NB470_476.out; have hnc77 := NB476_470.out; have hcz78_0 : w76.cell? ⟨gb470, 0, none⟩ = some (.int .i64 t465) := (blk_cell BK470.out 0).trans rfl; have hcz78_1 : w76.cell? ⟨gb470, 1, none⟩ = some (.slice Ao25 t466.length co25) := (blk_cell BK470.out 1).trans rfl; have hfz78_0 := blk_frozen BK470.out 0; have hfz78_1 := blk_frozen BK470.out 1) | ((with_reducible refine gate_callee (f := 13) rfl ?_); refine goesL_ (some 83) rfl rfl Try.func13 (by kernel_rfl) rfl #[.agg #[.int .i64 t465, .slice Ao25 t466.length co25], .int .i64 x16_2] rfl (by (try simp only [List.map_toArray, List.map_cons, List.map_nil]); first | done | rfl | (simp only [List.length_drop, List.length_take]; rfl)) ?_; (with_reducible refine (cell_Get.calls t465 _ _ t466 x16_2 t481 t482 _ ?side1 ?side2 A51.out).mono ?_); (case side1 => repeat (first | exact (Kd.R_reads' HO_471001.out).2.2 | (with_reducible refine Kd.C_alloc ?_ _) | (with_reducible refine Kd.C_drewN ?_ _) | (with_reducible refine Kd.C_drew ?_))); (case side2 => exact (Kd.R_reads' HO_471001.out).2.1); rintro e w79 ⟨rfl, hb⟩; refine ⟨_, rfl, ?_⟩; have n0_ := Aside0.mk (Kd.R_below (by (with_reducible repeat (first | apply Kd.R_alloc | apply Kd.R_drewN | apply Kd.R_drew)); exact HO_463001.out) hb); have n1_ := Aside0.mk (Kd.R_below (by (with_reducible repeat (first | apply Kd.R_alloc | apply Kd.R_drewN | apply Kd.R_drew)); exact HO_471001.out) hb); have n2_ := Aside0.mk (Kd.R_below (by (with_reducible repeat (first | apply Kd.R_alloc | apply Kd.R_drewN | apply Kd.R_drew)); exact HO_477001.out) hb); have n3_ := Aside0.mk (blk_below (g := gb462) (o := .cells #[.int .i64 t458, .slice Ao17 t459.length co17] 27 (0, 0)) (by (with_reducible repeat (first | refine blk_drewN ?_ _ | refine blk_drew ?_ | refine blk_alloc ?_ _)); exact BK462.out) hb); have n4_ := Aside0.mk (blk_below (g := gb470) (o := .cells #[.int .i64 t465, .slice Ao25 t466.length co25] 27 (0, 0)) (by (with_reducible repeat (first | refine blk_drewN ?_ _ | refine blk_drew ?_ | refine blk_alloc ?_ _)); exact BK470.out) hb); have n5_ := Aside0.mk (blk_below (g := gb476) (o := .cells #[.int .i64 t471, .slice Ao34 t472.length co34] 27 (0, 0)) (by (with_reducible repeat (first | refine blk_drewN ?_ _ | refine blk_drew ?_ | refine blk_alloc ?_ _)); exact BK476.out) hb); have n6_ := Aside0.mk (below_step (by repeat (first | (with_reducible first | exact HB.out | apply below_alloc | apply pw_below_drewN | apply below_drew1 | refine below_set ?_ GE462.out | refine below_set ?_ GE470.out | refine below_set ?_ GE476.out) | exact HB.out)) hb); clear HO_463001; clear HO_471001; clear HO_477001; clear BK462; clear BK470; clear BK476; clear HB; have HO_463001 := n0_; have HO_471001 := n1_; have HO_477001 := n2_; have BK462 := n3_; have BK470 := n4_; have BK476 := n5_; have HB := n6_; clear n0_ n1_ n2_ n3_ n4_ n5_ n6_; (try clear hb); (try clear hb2); (try clear hk); (try clear hi); have hcz80_0 : w79.cell? ⟨gb476, 0, none⟩ = some (.int .i64 t471) := (blk_cell BK476.out 0).trans rfl; have hcz80_1 : w79.cell? ⟨gb476, 1, none⟩ = some (.slice Ao34 t472.length co34) := (blk_cell BK476.out 1).trans rfl; have hfz80_0 := blk_frozen BK476.out 0; have hfz80_1 := blk_frozen BK476.out 1) | ((with_reducible refine gate_callee (f := 13) rfl ?_); refine goesL_ (some 89) rfl rfl Try.func13 (by kernel_rfl) rfl #[.agg #[.int .i64 t471, .slice Ao34 t472.length co34], .int .i64 x16_2] rfl (by (try simp only [List.map_toArray, List.map_cons, List.map_nil]); first | done | rfl | (simp only [List.length_drop, List.length_take]; rfl)) ?_; (with_reducible refine (cell_Get.calls t471 _ _ t472 x16_2 t483 t484 _ ?side1 ?side2 A52.out).mono ?_); (case side1 => repeat (first | exact (Kd.R_reads' HO_477001.out).2.2 | (with_reducible refine Kd.C_alloc ?_ _) | (with_reducible refine Kd.C_drewN ?_ _) | (with_reducible refine Kd.C_drew ?_))); (case side2 => exact (Kd.R_reads' HO_477001.out).2.1); rintro e w81 ⟨rfl, hb⟩; refine ⟨_, rfl, ?_⟩; have n0_ := Aside0.mk (Kd.R_below (by (with_reducible repeat (first | apply Kd.R_alloc | apply Kd.R_drewN | apply Kd.R_drew)); exact HO_463001.out) hb); have n1_ := Aside0.mk (Kd.R_below (by (with_reducible repeat (first | apply Kd.R_alloc | apply Kd.R_drewN | apply Kd.R_drew)); exact HO_471001.out) hb); have n2_ := Aside0.mk (Kd.R_below (by (with_reducible repeat (first | apply Kd.R_alloc | apply Kd.R_drewN | apply Kd.R_drew)); exact HO_477001.out) hb); have n3_ := Aside0.mk (blk_below (g := gb462) (o := .cells #[.int .i64 t458, .slice Ao17 t459.length co17] 27 (0, 0)) (by (with_reducible repeat (first | refine blk_drewN ?_ _ | refine blk_drew ?_ | refine blk_alloc ?_ _)); exact BK462.out) hb); have n4_ := Aside0.mk (blk_below (g := gb470) (o := .cells #[.int .i64 t465, .slice Ao25 t466.length co25] 27 (0, 0)) (by (with_reducible repeat (first | refine blk_drewN ?_ _ | refine blk_drew ?_ | refine blk_alloc ?_ _)); exact BK470.out) hb); have n5_ := Aside0.mk (blk_below (g := gb476) (o := .cells #[.int .i64 t471, .slice Ao34 t472.length co34] 27 (0, 0)) (by (with_reducible repeat (first | refine blk_drewN ?_ _ | refine blk_drew ?_ | refine blk_alloc ?_ _)); exact BK476.out) hb); have n6_ := Aside0.mk (below_step (by repeat (first | (with_reducible first | exact HB.out | apply below_alloc | apply pw_below_drewN | apply below_drew1 | refine below_set ?_ GE462.out | refine below_set ?_ GE470.out | refine below_set ?_ GE476.out) | exact HB.out)) hb); clear HO_463001; clear HO_471001; clear HO_477001; clear BK462; clear BK470; clear BK476; clear HB; have HO_463001 := n0_; have HO_471001 := n1_; have HO_477001 := n2_; have BK462 := n3_; have BK470 := n4_; have BK476 := n5_; have HB := n6_; clear n0_ n1_ n2_ n3_ n4_ n5_ n6_; (try clear hb); (try clear hb2); (try clear hk); (try clear hi)))
                        go_roundg k2
                        case measure => have := HJ11.out; have := HK2.out; omega
                        case rel => exact ⟨(wrap64 (x16_2 + 1)), (by first | rfl | (simp; done) | (simp [*]; done)), H', ⟨by have := HJ11.out; have := HK2.out; omega⟩, ⟨by (with_reducible repeat (first | apply Kd.R_alloc | apply Kd.R_drewN | apply Kd.R_drew)); exact HO_463001.out⟩, ⟨by (with_reducible repeat (first | apply Kd.R_alloc | apply Kd.R_drewN | apply Kd.R_drew)); exact HO_471001.out⟩, ⟨by (with_reducible repeat (first | apply Kd.R_alloc | apply Kd.R_drewN | apply Kd.R_drew)); exact HO_477001.out⟩, ⟨by (with_reducible repeat (first | refine blk_drewN ?_ _ | refine blk_drew ?_ | refine blk_alloc ?_ _)); exact BK462.out⟩, ⟨by (with_reducible repeat (first | refine blk_drewN ?_ _ | refine blk_drew ?_ | refine blk_alloc ?_ _)); exact BK470.out⟩, ⟨by (with_reducible repeat (first | refine blk_drewN ?_ _ | refine blk_drew ?_ | refine blk_alloc ?_ _)); exact BK476.out⟩, ⟨by repeat (first | (with_reducible first | exact HB.out | apply below_alloc | apply pw_below_drewN | apply below_drew1 | refine below_set ?_ GE462.out | refine below_set ?_ GE470.out | refine below_set ?_ GE476.out) | exact HB.out)⟩⟩
                    · rw [if_neg c71] at H
                      exact absurd H (by simp)
                · rw [if_neg c69] at H
                  exact absurd H (by simp)
            · rw [if_neg c49] at H
              have c49b0 : decide (x16_2 < (wrap64 (1 + t457))) = false := decide_eq_false c49
              clear c49
              replace H := Option.bind_eq_some_iff.mp H
              obtain ⟨t486, A820, H⟩ := H
              replace H : ((cell_Put.f t465 t466 t463 t486).bind fun bt487 => ((rootcellarlaw9_as.f k2 t465 t466).bind fun bt493 => ((rootcellarlaw9_same.f k2 bt487.1 bt487.2.1 bt493.1 bt493.2).bind fun t497 => (if t497 = true then (if (t466.length : Int) ≤ (wrap64 (1 + t457)) then (some ((t472.length : Int) == (wrap64 ((t466.length : Int) - 1)))) else (none)) else (none))))) = some r := H
              have A82 := Aside0.mk A820
              clear A820
              replace H := Option.bind_eq_some_iff.mp H
              obtain ⟨⟨t487, t488, t491⟩, A830, H⟩ := H
              replace H : ((rootcellarlaw9_as.f k2 t465 t466).bind fun bt493 => ((rootcellarlaw9_same.f k2 t487 t488 bt493.1 bt493.2).bind fun t497 => (if t497 = true then (if (t466.length : Int) ≤ (wrap64 (1 + t457)) then (some ((t472.length : Int) == (wrap64 ((t466.length : Int) - 1)))) else (none)) else (none)))) = some r := H
              have A83 := Aside0.mk A830
              clear A830
              replace H := Option.bind_eq_some_iff.mp H
              obtain ⟨⟨t493, t494⟩, A840, H⟩ := H
              replace H : ((rootcellarlaw9_same.f k2 t487 t488 t493 t494).bind fun t497 => (if t497 = true then (if (t466.length : Int) ≤ (wrap64 (1 + t457)) then (some ((t472.length : Int) == (wrap64 ((t466.length : Int) - 1)))) else (none)) else (none))) = some r := H
              have A84 := Aside0.mk A840
              clear A840
              replace H := Option.bind_eq_some_iff.mp H
              obtain ⟨t497, A850, H⟩ := H
              replace H : (if t497 = true then (if (t466.length : Int) ≤ (wrap64 (1 + t457)) then (some ((t472.length : Int) == (wrap64 ((t466.length : Int) - 1)))) else (none)) else (none)) = some r := H
              have A85 := Aside0.mk A850
              clear A850
              by_cases c86 : t497 = true
              · subst c86
                have H1 : (if (t466.length : Int) ≤ (wrap64 (1 + t457)) then (some ((t472.length : Int) == (wrap64 ((t466.length : Int) - 1)))) else (none)) = some r := by rw [if_pos rfl] at H; exact H
                clear H
                have H := H1
                clear H1
                by_cases c87 : (t466.length : Int) ≤ (wrap64 (1 + t457))
                · rw [if_pos c87] at H
                  have c87b0 : decide ((t466.length : Int) ≤ (wrap64 (1 + t457))) = true := decide_eq_true c87
                  clear c87
                  obtain rfl := Option.some.inj H
                  try go_wp2
                  have n0_ := Aside0.mk (Kd.R_drew HO_463001.out)
                  have n1_ := Aside0.mk (Kd.R_drew HO_471001.out)
                  have n2_ := Aside0.mk (Kd.R_drew HO_477001.out)
                  have n3_ := Aside0.mk (blk_drew BK462.out)
                  have n4_ := Aside0.mk (blk_drew BK470.out)
                  have n5_ := Aside0.mk (blk_drew BK476.out)
                  have n6_ := Aside0.mk (below_drew1 HB.out)
                  clear HO_463001
                  clear HO_471001
                  clear HO_477001
                  clear BK462
                  clear BK470
                  clear BK476
                  clear HB
                  have HO_463001 := n0_
                  have HO_471001 := n1_
                  have HO_477001 := n2_
                  have BK462 := n3_
                  have BK470 := n4_
                  have BK476 := n5_
                  have HB := n6_
                  clear n0_ n1_ n2_ n3_ n4_ n5_ n6_
                  refine start_ (n := 11) (S := fun w' => w'.cell? ⟨gb470, 0, none⟩ = some (.int .i64 t465) ∧ w'.cell? ⟨gb470, 1, none⟩ = some (.slice Ao25 t466.length co25)) (ds := []) #[false, false, false, false, false, false, false, false, false, false, false] (by kernel_rfl) rfl rfl ⟨(blk_cell BK470.out 0).trans rfl, (blk_cell BK470.out 1).trans rfl⟩ (fun hHeld => ?_); refine with_tabW rootcellarlaw9_CellPut.tab17 rootcellarlaw9_CellPut.bits17 (fun HT_ HW_ => ?_)
                  generalize wr.drew = w88 at HO_463001 HO_471001 HO_477001 BK462 BK470 BK476 HB hHeld ⊢
                  refine pure_ (i := 1) (N := some 139) (v := ?_) (a' := ?_) #[false, true, false, false, false, false, false, false, false, false, false] rfl rfl (any_of HT_.out (by kernel_rfl)) (fun _ _ _ h => h) (Or.inl ⟨by rfl, ?_⟩) ?_ ?_
                  rotate_left
                  · intro w'
                    go_simp
                    with_reducible rfl
                  rotate_left
                  · simp only [Act.put, List.setIfInBounds_toArray, List.set_cons_zero, List.set_cons_succ, i64_w, i32_w]
                    rfl
                  refine pure_ (i := 2) (N := some 140) (v := ?_) (a' := ?_) #[false, true, true, false, false, false, false, false, false, false, false] rfl rfl (any_of HT_.out (by kernel_rfl)) (fun _ _ _ h => h) (Or.inl ⟨by rfl, ?_⟩) ?_ ?_
                  rotate_left
                  · intro w'
                    go_simp
                    with_reducible rfl
                  rotate_left
                  · simp only [Act.put, List.setIfInBounds_toArray, List.set_cons_zero, List.set_cons_succ, i64_w, i32_w]
                    rfl
                  refine take_ (i := 0) (N := some 138) (v := ?_) (a' := ?_) #[true, true, true, false, false, false, false, false, false, false, false] rfl rfl (take_ofW HT_.out HW_.out (by kernel_rfl)) (fun _ _ _ h => h) (Or.inl ⟨by rfl, ?_⟩) hHeld ?_ ?_
                  rotate_left
                  · rintro w' ⟨s0, s1⟩
                    go_simp
                    with_reducible rfl
                  rotate_left
                  · simp only [Act.put, List.setIfInBounds_toArray, List.set_cons_zero, List.set_cons_succ, i64_w, i32_w]
                    rfl
                  refine join_ (σ := Value × Nat) 2 #[true, true, true, true, true, true, true, true, true, false, false] (fun s_ => [(141, .string t486), (142, .tuple #[.agg #[.int .i64 t487, s_.1], .int .i64 t491]), (23, .pointer (some ⟨s_.2, 0, none⟩)), (137, .tuple #[.agg #[.int .i64 t487, s_.1], .int .i64 t491]), (143, .agg #[.int .i64 t487, s_.1]), (144, .int .i64 t491)]) (fun s_ w' => (w'.cell? ⟨gb470, 0, none⟩ = some (.int .i64 t465) ∧ w'.cell? ⟨gb470, 1, none⟩ = some (.slice Ao25 t466.length co25)) ∧ (Kd.R k51 51 w' w.heap.size (fun k_ => some k_ ≠ (.slice Ao17 t459.length co17 : Value).ownBlock ∧ some k_ ≠ (.slice Ao25 t466.length co25 : Value).ownBlock ∧ some k_ ≠ (.slice Ao34 t472.length co34 : Value).ownBlock) s_.1 t488) ∧ (Kd.R k51 51 w' w.heap.size (fun k_ => some k_ ≠ (s_.1 : Value).ownBlock ∧ some k_ ≠ (.slice Ao25 t466.length co25 : Value).ownBlock ∧ some k_ ≠ (.slice Ao34 t472.length co34 : Value).ownBlock) (.slice Ao17 t459.length co17) t459) ∧ (Kd.R k51 51 w' w.heap.size (fun k_ => some k_ ≠ (s_.1 : Value).ownBlock ∧ some k_ ≠ (.slice Ao17 t459.length co17 : Value).ownBlock ∧ some k_ ≠ (.slice Ao34 t472.length co34 : Value).ownBlock) (.slice Ao25 t466.length co25) t466) ∧ (Kd.R k51 51 w' w.heap.size (fun k_ => some k_ ≠ (s_.1 : Value).ownBlock ∧ some k_ ≠ (.slice Ao17 t459.length co17 : Value).ownBlock ∧ some k_ ≠ (.slice Ao25 t466.length co25 : Value).ownBlock) (.slice Ao34 t472.length co34) t472) ∧ (w'.heap[gb462]? = some (.cells #[.int .i64 t458, .slice Ao17 t459.length co17] 27 (0, 0))) ∧ (w'.heap[gb470]? = some (.cells #[.int .i64 t465, .slice Ao25 t466.length co25] 27 (0, 0))) ∧ (w'.heap[gb476]? = some (.cells #[.int .i64 t471, .slice Ao34 t472.length co34] 27 (0, 0))) ∧ (w'.heap[s_.2]? = some (.cells #[.int .i64 0, .slice none 0 0] 27 (0, 0))) ∧ (w.heap.size ≤ s_.2) ∧ (w.heap.size ≤ s_.2) ∧ (gb462 ≠ s_.2) ∧ (s_.2 ≠ gb462) ∧ (gb470 ≠ s_.2) ∧ (s_.2 ≠ gb470) ∧ (gb476 ≠ s_.2) ∧ (s_.2 ≠ gb476) ∧ (Below w.heap.size w w')) ?_ ?_
                  rotate_left
                  · intro hCont
                    refine two_ (i := 3) (j := 8) (Ni := some 141) (Nj := some 23) #[true, true, true, true, false, false, false, false, false, false, false] #[true, true, true, false, false, false, false, false, true, false, false] rfl rfl rfl rfl (two_of HT_.out (by kernel_rfl)) (by decide) (by decide) (fun K hK => ?_) (fun K hK => ?_)
                    · skip
                      refine goes_ Try.func14 (by kernel_rfl) rfl #[.int .i64 a3] (by rfl) rfl rfl (by (try simp only [List.map_toArray, List.map_cons, List.map_nil]); first | done | rfl | (simp only [List.length_drop, List.length_take]; rfl)) ?_
                      with_reducible refine (rootcellarlaw9_cluster.calls k2 a3 t486 _ A82.out).mono ?_
                      rintro e w89 ⟨rfl, hb⟩
                      refine ⟨_, rfl, ?_⟩
                      have n0_ := Aside0.mk (Kd.R_below (by (with_reducible repeat (first | apply Kd.R_alloc | apply Kd.R_drewN | apply Kd.R_drew)); exact HO_463001.out) hb)
                      have n1_ := Aside0.mk (Kd.R_below (by (with_reducible repeat (first | apply Kd.R_alloc | apply Kd.R_drewN | apply Kd.R_drew)); exact HO_471001.out) hb)
                      have n2_ := Aside0.mk (Kd.R_below (by (with_reducible repeat (first | apply Kd.R_alloc | apply Kd.R_drewN | apply Kd.R_drew)); exact HO_477001.out) hb)
                      have n3_ := Aside0.mk (blk_below (g := gb462) (o := .cells #[.int .i64 t458, .slice Ao17 t459.length co17] 27 (0, 0)) (by (with_reducible repeat (first | refine blk_drewN ?_ _ | refine blk_drew ?_ | refine blk_alloc ?_ _)); exact BK462.out) hb)
                      have n4_ := Aside0.mk (blk_below (g := gb470) (o := .cells #[.int .i64 t465, .slice Ao25 t466.length co25] 27 (0, 0)) (by (with_reducible repeat (first | refine blk_drewN ?_ _ | refine blk_drew ?_ | refine blk_alloc ?_ _)); exact BK470.out) hb)
                      have n5_ := Aside0.mk (blk_below (g := gb476) (o := .cells #[.int .i64 t471, .slice Ao34 t472.length co34] 27 (0, 0)) (by (with_reducible repeat (first | refine blk_drewN ?_ _ | refine blk_drew ?_ | refine blk_alloc ?_ _)); exact BK476.out) hb)
                      have n6_ := Aside0.mk (below_step (by repeat (first | (with_reducible first | exact HB.out | apply below_alloc | apply pw_below_drewN | apply below_drew1 | refine below_set ?_ GE462.out | refine below_set ?_ GE470.out | refine below_set ?_ GE476.out) | exact HB.out)) hb)
                      clear HO_463001
                      clear HO_471001
                      clear HO_477001
                      clear BK462
                      clear BK470
                      clear BK476
                      clear HB
                      have HO_463001 := n0_
                      have HO_471001 := n1_
                      have HO_477001 := n2_
                      have BK462 := n3_
                      have BK470 := n4_
                      have BK476 := n5_
                      have HB := n6_
                      clear n0_ n1_ n2_ n3_ n4_ n5_ n6_
                      (try clear hb)
                      (try clear hb2)
                      (try clear hk)
                      (try clear hi)
                      refine hK.out _ _ ⟨(blk_cell BK470.out 0).trans rfl, (blk_cell BK470.out 1).trans rfl⟩ (fun hHeld => ?_)
                      clear hK K
                      refine norm_ (a' := ?_) ?_ ?_
                      rotate_left
                      · show Act.put _ (some 141) _ = _
                        simp only [Act.put, List.setIfInBounds_toArray, List.set_cons_zero, List.set_cons_succ, i64_w, i32_w]
                        rfl
                      refine two_ (i := 4) (j := 8) (Ni := some 142) (Nj := some 23) #[true, true, true, true, true, false, false, false, false, false, false] #[true, true, true, true, false, false, false, false, true, false, false] rfl rfl rfl rfl (two_of HT_.out (by kernel_rfl)) (by decide) (by decide) (fun K hK => ?_) (fun K hK => ?_)
                      · skip
                        refine goes_ Try.func15 (by kernel_rfl) rfl #[.agg #[.int .i64 t465, .slice Ao25 t466.length co25], .int .i64 t463, .string t486] (by rfl) rfl rfl (by (try simp only [List.map_toArray, List.map_cons, List.map_nil]); first | done | rfl | (simp only [List.length_drop, List.length_take]; rfl)) ?_
                        with_reducible refine (cell_Put.calls t465 _ _ t466 t463 t486 t487 t488 t491 _ ?side1 ?side2 A83.out).mono ?_
                        (case side1 => repeat (first | exact (Kd.R_reads' HO_471001.out).2.2 | (with_reducible refine Kd.C_alloc ?_ _) | (with_reducible refine Kd.C_drewN ?_ _) | (with_reducible refine Kd.C_drew ?_)))
                        (case side2 => exact (Kd.R_reads' HO_471001.out).2.1)
                        rintro e w90 ⟨v489, rfl, ho0, hb⟩
                        refine ⟨_, rfl, ?_⟩
                        have n0_ := Aside0.mk (Kd.R_elder' (by (with_reducible repeat (first | apply Kd.R_alloc | apply Kd.R_drewN | apply Kd.R_drew)); exact HO_463001.out) (Kd.R_base ho0) hb)
                        have n1_ := Aside0.mk (Kd.R_elder' (by (with_reducible repeat (first | apply Kd.R_alloc | apply Kd.R_drewN | apply Kd.R_drew)); exact HO_471001.out) (Kd.R_base ho0) hb)
                        have n2_ := Aside0.mk (Kd.R_elder' (by (with_reducible repeat (first | apply Kd.R_alloc | apply Kd.R_drewN | apply Kd.R_drew)); exact HO_477001.out) (Kd.R_base ho0) hb)
                        have n3_ := Aside0.mk (Kd.R_lower (Kd.R_new' (Kd.R_new' (Kd.R_new' ho0 (Kd.R_lt (by (with_reducible repeat (first | apply Kd.R_alloc | apply Kd.R_drewN | apply Kd.R_drew)); exact HO_463001.out))) (Kd.R_lt (by (with_reducible repeat (first | apply Kd.R_alloc | apply Kd.R_drewN | apply Kd.R_drew)); exact HO_471001.out))) (Kd.R_lt (by (with_reducible repeat (first | apply Kd.R_alloc | apply Kd.R_drewN | apply Kd.R_drew)); exact HO_477001.out))) (below_size (by repeat (first | (with_reducible first | exact HB.out | apply below_alloc | apply pw_below_drewN | apply below_drew1 | refine below_set ?_ GE462.out | refine below_set ?_ GE470.out | refine below_set ?_ GE476.out) | exact HB.out))))
                        have n4_ := Aside0.mk (blk_below (g := gb462) (o := .cells #[.int .i64 t458, .slice Ao17 t459.length co17] 27 (0, 0)) (by (with_reducible repeat (first | refine blk_drewN ?_ _ | refine blk_drew ?_ | refine blk_alloc ?_ _)); exact BK462.out) hb)
                        have n5_ := Aside0.mk (blk_below (g := gb470) (o := .cells #[.int .i64 t465, .slice Ao25 t466.length co25] 27 (0, 0)) (by (with_reducible repeat (first | refine blk_drewN ?_ _ | refine blk_drew ?_ | refine blk_alloc ?_ _)); exact BK470.out) hb)
                        have n6_ := Aside0.mk (blk_below (g := gb476) (o := .cells #[.int .i64 t471, .slice Ao34 t472.length co34] 27 (0, 0)) (by (with_reducible repeat (first | refine blk_drewN ?_ _ | refine blk_drew ?_ | refine blk_alloc ?_ _)); exact BK476.out) hb)
                        have n7_ := Aside0.mk (below_step (by repeat (first | (with_reducible first | exact HB.out | apply below_alloc | apply pw_below_drewN | apply below_drew1 | refine below_set ?_ GE462.out | refine below_set ?_ GE470.out | refine below_set ?_ GE476.out) | exact HB.out)) hb)
                        clear HO_463001
                        clear HO_471001
                        clear HO_477001
                        clear BK462
                        clear BK470
                        clear BK476
                        clear HB
                        have HO_463001 := n0_
                        have HO_471001 := n1_
                        have HO_477001 := n2_
                        have HO490 := n3_
                        have BK462 := n4_
                        have BK470 := n5_
                        have BK476 := n6_
                        have HB := n7_
                        clear n0_ n1_ n2_ n3_ n4_ n5_ n6_ n7_
                        (try clear hb)
                        (try clear hb2)
                        (try clear hk)
                        (try clear hi)
                        (try clear ho0)
                        refine hK.out _ _ ⟨(blk_cell BK470.out 0).trans rfl, (blk_cell BK470.out 1).trans rfl⟩ (fun hHeld => ?_)
                        clear hK K
                        refine norm_ (a' := ?_) ?_ ?_
                        rotate_left
                        · show Act.put _ (some 142) _ = _
                          simp only [Act.put, List.setIfInBounds_toArray, List.set_cons_zero, List.set_cons_succ, i64_w, i32_w]
                          rfl
                        refine pure_ (i := 5) (N := some 137) (v := ?_) (a' := ?_) #[true, true, true, true, true, true, false, false, false, false, false] rfl rfl (any_of HT_.out (by kernel_rfl)) (fun _ _ _ h => h) (Or.inl ⟨by rfl, ?_⟩) ?_ ?_
                        rotate_left
                        · intro w'
                          go_simp
                          with_reducible rfl
                        rotate_left
                        · simp only [Act.put, List.setIfInBounds_toArray, List.set_cons_zero, List.set_cons_succ, i64_w, i32_w]
                          rfl
                        refine pure_ (i := 6) (N := some 143) (v := ?_) (a' := ?_) #[true, true, true, true, true, true, true, false, false, false, false] rfl rfl (any_of HT_.out (by kernel_rfl)) (fun _ _ _ h => h) (Or.inl ⟨by rfl, ?_⟩) ?_ ?_
                        rotate_left
                        · intro w'
                          go_simp
                          with_reducible rfl
                        rotate_left
                        · simp only [Act.put, List.setIfInBounds_toArray, List.set_cons_zero, List.set_cons_succ, i64_w, i32_w]
                          rfl
                        refine pure_ (i := 7) (N := some 144) (v := ?_) (a' := ?_) #[true, true, true, true, true, true, true, true, false, false, false] rfl rfl (any_of HT_.out (by kernel_rfl)) (fun _ _ _ h => h) (Or.inl ⟨by rfl, ?_⟩) ?_ ?_
                        rotate_left
                        · intro w'
                          go_simp
                          with_reducible rfl
                        rotate_left
                        · simp only [Act.put, List.setIfInBounds_toArray, List.set_cons_zero, List.set_cons_succ, i64_w, i32_w]
                          rfl
                        refine one_ (i := 8) (N := some 23) #[true, true, true, true, true, true, true, true, true, false, false] rfl rfl (one_of HT_.out (by kernel_rfl)) (by decide) (fun K hK => ?_)
                        refine box_step ?hg (N := 23) ?hd (cs := #[.int .i64 0, .slice none 0 0]) (t := 27) ?hr ?_; (case hd => rfl); (case hg => rfl); (case hr => first | (go_simp; done) | (go_simp; rfl))
                        intro gb492 hg w91 hbox hb
                        have n0_ := Aside0.mk (Kd.R_below (by (with_reducible repeat (first | apply Kd.R_alloc | apply Kd.R_drewN | apply Kd.R_drew)); exact HO_463001.out) hb)
                        have n1_ := Aside0.mk (Kd.R_below (by (with_reducible repeat (first | apply Kd.R_alloc | apply Kd.R_drewN | apply Kd.R_drew)); exact HO_471001.out) hb)
                        have n2_ := Aside0.mk (Kd.R_below (by (with_reducible repeat (first | apply Kd.R_alloc | apply Kd.R_drewN | apply Kd.R_drew)); exact HO_477001.out) hb)
                        have n3_ := Aside0.mk (Kd.R_below (by (with_reducible repeat (first | apply Kd.R_alloc | apply Kd.R_drewN | apply Kd.R_drew)); exact HO490.out) hb)
                        have n4_ := Aside0.mk (blk_below (g := gb462) (o := .cells #[.int .i64 t458, .slice Ao17 t459.length co17] 27 (0, 0)) (by (with_reducible repeat (first | refine blk_drewN ?_ _ | refine blk_drew ?_ | refine blk_alloc ?_ _)); exact BK462.out) hb)
                        have n5_ := Aside0.mk (blk_below (g := gb470) (o := .cells #[.int .i64 t465, .slice Ao25 t466.length co25] 27 (0, 0)) (by (with_reducible repeat (first | refine blk_drewN ?_ _ | refine blk_drew ?_ | refine blk_alloc ?_ _)); exact BK470.out) hb)
                        have n6_ := Aside0.mk (blk_below (g := gb476) (o := .cells #[.int .i64 t471, .slice Ao34 t472.length co34] 27 (0, 0)) (by (with_reducible repeat (first | refine blk_drewN ?_ _ | refine blk_drew ?_ | refine blk_alloc ?_ _)); exact BK476.out) hb)
                        have n7_ := Aside0.mk (below_step (by repeat (first | (with_reducible first | exact HB.out | apply below_alloc | apply pw_below_drewN | apply below_drew1 | refine below_set ?_ GE462.out | refine below_set ?_ GE470.out | refine below_set ?_ GE476.out) | exact HB.out)) hb)
                        have n8_ := Aside0.mk (hbox)
                        have n9_ := Aside0.mk ((by rw [hg]; exact (below_size (by repeat (first | (with_reducible first | exact HB.out | apply below_alloc | apply pw_below_drewN | apply below_drew1 | refine below_set ?_ GE462.out | refine below_set ?_ GE470.out | refine below_set ?_ GE476.out) | exact HB.out))) : w.heap.size ≤ gb492))
                        have n10_ := Aside0.mk ((by rw [hg]; exact (below_size (by repeat (first | (with_reducible first | exact HB.out | apply below_alloc | apply pw_below_drewN | apply below_drew1 | refine below_set ?_ GE462.out | refine below_set ?_ GE470.out | refine below_set ?_ GE476.out) | exact HB.out))) : w.heap.size ≤ gb492))
                        have n11_ := Aside0.mk ((by rw [hg]; exact Nat.ne_of_lt (blk_lt (g := gb462) (o := .cells #[.int .i64 t458, .slice Ao17 t459.length co17] 27 (0, 0)) (by (with_reducible repeat (first | refine blk_drewN ?_ _ | refine blk_drew ?_ | refine blk_alloc ?_ _)); exact BK462.out)) : gb462 ≠ gb492))
                        have n12_ := Aside0.mk ((by rw [hg]; exact Nat.ne_of_gt (blk_lt (g := gb462) (o := .cells #[.int .i64 t458, .slice Ao17 t459.length co17] 27 (0, 0)) (by (with_reducible repeat (first | refine blk_drewN ?_ _ | refine blk_drew ?_ | refine blk_alloc ?_ _)); exact BK462.out)) : gb492 ≠ gb462))
                        have n13_ := Aside0.mk ((by rw [hg]; exact Nat.ne_of_lt (blk_lt (g := gb470) (o := .cells #[.int .i64 t465, .slice Ao25 t466.length co25] 27 (0, 0)) (by (with_reducible repeat (first | refine blk_drewN ?_ _ | refine blk_drew ?_ | refine blk_alloc ?_ _)); exact BK470.out)) : gb470 ≠ gb492))
                        have n14_ := Aside0.mk ((by rw [hg]; exact Nat.ne_of_gt (blk_lt (g := gb470) (o := .cells #[.int .i64 t465, .slice Ao25 t466.length co25] 27 (0, 0)) (by (with_reducible repeat (first | refine blk_drewN ?_ _ | refine blk_drew ?_ | refine blk_alloc ?_ _)); exact BK470.out)) : gb492 ≠ gb470))
                        have n15_ := Aside0.mk ((by rw [hg]; exact Nat.ne_of_lt (blk_lt (g := gb476) (o := .cells #[.int .i64 t471, .slice Ao34 t472.length co34] 27 (0, 0)) (by (with_reducible repeat (first | refine blk_drewN ?_ _ | refine blk_drew ?_ | refine blk_alloc ?_ _)); exact BK476.out)) : gb476 ≠ gb492))
                        have n16_ := Aside0.mk ((by rw [hg]; exact Nat.ne_of_gt (blk_lt (g := gb476) (o := .cells #[.int .i64 t471, .slice Ao34 t472.length co34] 27 (0, 0)) (by (with_reducible repeat (first | refine blk_drewN ?_ _ | refine blk_drew ?_ | refine blk_alloc ?_ _)); exact BK476.out)) : gb492 ≠ gb476))
                        clear HO_463001
                        clear HO_471001
                        clear HO_477001
                        clear HO490
                        clear BK462
                        clear BK470
                        clear BK476
                        clear HB
                        have HO_463001 := n0_
                        have HO_471001 := n1_
                        have HO_477001 := n2_
                        have HO490 := n3_
                        have BK462 := n4_
                        have BK470 := n5_
                        have BK476 := n6_
                        have HB := n7_
                        have BK492 := n8_
                        have GW492 := n9_
                        have GE492 := n10_
                        have NB462_492 := n11_
                        have NB492_462 := n12_
                        have NB470_492 := n13_
                        have NB492_470 := n14_
                        have NB476_492 := n15_
                        have NB492_476 := n16_
                        clear n0_ n1_ n2_ n3_ n4_ n5_ n6_ n7_ n8_ n9_ n10_ n11_ n12_ n13_ n14_ n15_ n16_
                        clear hb hbox hg
                        refine hK.out _ _ ⟨(blk_cell BK470.out 0).trans rfl, (blk_cell BK470.out 1).trans rfl⟩ (fun hHeld => ?_)
                        clear hK K
                        refine norm_ (a' := ?_) ?_ ?_
                        rotate_left
                        · show Act.put _ (some 23) _ = _
                          simp only [Act.put, List.setIfInBounds_toArray, List.set_cons_zero, List.set_cons_succ, i64_w, i32_w]
                          rfl
                        exact norm_ (by simp only [putAll, Act.put, List.setIfInBounds_toArray, List.set_cons_zero, List.set_cons_succ]) (hCont (v489, gb492) _ ⟨hHeld, (by (with_reducible repeat (first | apply Kd.R_alloc | apply Kd.R_drewN | apply Kd.R_drew)); exact Kd.R_mono HO490.out (fun _ hk => ⟨hk.1.1.2, ⟨hk.1.2, hk.2⟩⟩)), (by (with_reducible repeat (first | apply Kd.R_alloc | apply Kd.R_drewN | apply Kd.R_drew)); exact Kd.R_mono HO_463001.out (fun _ hk => ⟨hk.2, ⟨hk.1.1, hk.1.2⟩⟩)), (by (with_reducible repeat (first | apply Kd.R_alloc | apply Kd.R_drewN | apply Kd.R_drew)); exact Kd.R_mono HO_471001.out (fun _ hk => ⟨hk.2, ⟨hk.1.1, hk.1.2⟩⟩)), (by (with_reducible repeat (first | apply Kd.R_alloc | apply Kd.R_drewN | apply Kd.R_drew)); exact Kd.R_mono HO_477001.out (fun _ hk => ⟨hk.2, ⟨hk.1.1, hk.1.2⟩⟩)), (by (with_reducible repeat (first | refine blk_drewN ?_ _ | refine blk_drew ?_ | refine blk_alloc ?_ _)); exact BK462.out), (by (with_reducible repeat (first | refine blk_drewN ?_ _ | refine blk_drew ?_ | refine blk_alloc ?_ _)); exact BK470.out), (by (with_reducible repeat (first | refine blk_drewN ?_ _ | refine blk_drew ?_ | refine blk_alloc ?_ _)); exact BK476.out), (by (with_reducible repeat (first | refine blk_drewN ?_ _ | refine blk_drew ?_ | refine blk_alloc ?_ _)); exact BK492.out), GW492.out, GE492.out, NB462_492.out, NB492_462.out, NB470_492.out, NB492_470.out, NB476_492.out, NB492_476.out, (by repeat (first | (with_reducible first | exact HB.out | apply below_alloc | apply pw_below_drewN | apply below_drew1 | refine below_set ?_ GE462.out | refine below_set ?_ GE470.out | refine below_set ?_ GE476.out | refine below_set ?_ GE492.out) | exact HB.out))⟩)
                      · skip
                        refine box_step ?hg (N := 23) ?hd (cs := #[.int .i64 0, .slice none 0 0]) (t := 27) ?hr ?_; (case hd => rfl); (case hg => rfl); (case hr => first | (go_simp; done) | (go_simp; rfl))
                        intro gb492 hg w90 hbox hb
                        have n0_ := Aside0.mk (Kd.R_below (by (with_reducible repeat (first | apply Kd.R_alloc | apply Kd.R_drewN | apply Kd.R_drew)); exact HO_463001.out) hb)
                        have n1_ := Aside0.mk (Kd.R_below (by (with_reducible repeat (first | apply Kd.R_alloc | apply Kd.R_drewN | apply Kd.R_drew)); exact HO_471001.out) hb)
                        have n2_ := Aside0.mk (Kd.R_below (by (with_reducible repeat (first | apply Kd.R_alloc | apply Kd.R_drewN | apply Kd.R_drew)); exact HO_477001.out) hb)
                        have n3_ := Aside0.mk (blk_below (g := gb462) (o := .cells #[.int .i64 t458, .slice Ao17 t459.length co17] 27 (0, 0)) (by (with_reducible repeat (first | refine blk_drewN ?_ _ | refine blk_drew ?_ | refine blk_alloc ?_ _)); exact BK462.out) hb)
                        have n4_ := Aside0.mk (blk_below (g := gb470) (o := .cells #[.int .i64 t465, .slice Ao25 t466.length co25] 27 (0, 0)) (by (with_reducible repeat (first | refine blk_drewN ?_ _ | refine blk_drew ?_ | refine blk_alloc ?_ _)); exact BK470.out) hb)
                        have n5_ := Aside0.mk (blk_below (g := gb476) (o := .cells #[.int .i64 t471, .slice Ao34 t472.length co34] 27 (0, 0)) (by (with_reducible repeat (first | refine blk_drewN ?_ _ | refine blk_drew ?_ | refine blk_alloc ?_ _)); exact BK476.out) hb)
                        have n6_ := Aside0.mk (below_step (by repeat (first | (with_reducible first | exact HB.out | apply below_alloc | apply pw_below_drewN | apply below_drew1 | refine below_set ?_ GE462.out | refine below_set ?_ GE470.out | refine below_set ?_ GE476.out) | exact HB.out)) hb)
                        have n7_ := Aside0.mk (hbox)
                        have n8_ := Aside0.mk ((by rw [hg]; exact (below_size (by repeat (first | (with_reducible first | exact HB.out | apply below_alloc | apply pw_below_drewN | apply below_drew1 | refine below_set ?_ GE462.out | refine below_set ?_ GE470.out | refine below_set ?_ GE476.out) | exact HB.out))) : w.heap.size ≤ gb492))
                        have n9_ := Aside0.mk ((by rw [hg]; exact (below_size (by repeat (first | (with_reducible first | exact HB.out | apply below_alloc | apply pw_below_drewN | apply below_drew1 | refine below_set ?_ GE462.out | refine below_set ?_ GE470.out | refine below_set ?_ GE476.out) | exact HB.out))) : w.heap.size ≤ gb492))
                        have n10_ := Aside0.mk ((by rw [hg]; exact Nat.ne_of_lt (blk_lt (g := gb462) (o := .cells #[.int .i64 t458, .slice Ao17 t459.length co17] 27 (0, 0)) (by (with_reducible repeat (first | refine blk_drewN ?_ _ | refine blk_drew ?_ | refine blk_alloc ?_ _)); exact BK462.out)) : gb462 ≠ gb492))
                        have n11_ := Aside0.mk ((by rw [hg]; exact Nat.ne_of_gt (blk_lt (g := gb462) (o := .cells #[.int .i64 t458, .slice Ao17 t459.length co17] 27 (0, 0)) (by (with_reducible repeat (first | refine blk_drewN ?_ _ | refine blk_drew ?_ | refine blk_alloc ?_ _)); exact BK462.out)) : gb492 ≠ gb462))
                        have n12_ := Aside0.mk ((by rw [hg]; exact Nat.ne_of_lt (blk_lt (g := gb470) (o := .cells #[.int .i64 t465, .slice Ao25 t466.length co25] 27 (0, 0)) (by (with_reducible repeat (first | refine blk_drewN ?_ _ | refine blk_drew ?_ | refine blk_alloc ?_ _)); exact BK470.out)) : gb470 ≠ gb492))
                        have n13_ := Aside0.mk ((by rw [hg]; exact Nat.ne_of_gt (blk_lt (g := gb470) (o := .cells #[.int .i64 t465, .slice Ao25 t466.length co25] 27 (0, 0)) (by (with_reducible repeat (first | refine blk_drewN ?_ _ | refine blk_drew ?_ | refine blk_alloc ?_ _)); exact BK470.out)) : gb492 ≠ gb470))
                        have n14_ := Aside0.mk ((by rw [hg]; exact Nat.ne_of_lt (blk_lt (g := gb476) (o := .cells #[.int .i64 t471, .slice Ao34 t472.length co34] 27 (0, 0)) (by (with_reducible repeat (first | refine blk_drewN ?_ _ | refine blk_drew ?_ | refine blk_alloc ?_ _)); exact BK476.out)) : gb476 ≠ gb492))
                        have n15_ := Aside0.mk ((by rw [hg]; exact Nat.ne_of_gt (blk_lt (g := gb476) (o := .cells #[.int .i64 t471, .slice Ao34 t472.length co34] 27 (0, 0)) (by (with_reducible repeat (first | refine blk_drewN ?_ _ | refine blk_drew ?_ | refine blk_alloc ?_ _)); exact BK476.out)) : gb492 ≠ gb476))
                        clear HO_463001
                        clear HO_471001
                        clear HO_477001
                        clear BK462
                        clear BK470
                        clear BK476
                        clear HB
                        have HO_463001 := n0_
                        have HO_471001 := n1_
                        have HO_477001 := n2_
                        have BK462 := n3_
                        have BK470 := n4_
                        have BK476 := n5_
                        have HB := n6_
                        have BK492 := n7_
                        have GW492 := n8_
                        have GE492 := n9_
                        have NB462_492 := n10_
                        have NB492_462 := n11_
                        have NB470_492 := n12_
                        have NB492_470 := n13_
                        have NB476_492 := n14_
                        have NB492_476 := n15_
                        clear n0_ n1_ n2_ n3_ n4_ n5_ n6_ n7_ n8_ n9_ n10_ n11_ n12_ n13_ n14_ n15_
                        clear hb hbox hg
                        refine hK.out _ _ ⟨(blk_cell BK470.out 0).trans rfl, (blk_cell BK470.out 1).trans rfl⟩ (fun hHeld => ?_)
                        clear hK K
                        refine norm_ (a' := ?_) ?_ ?_
                        rotate_left
                        · show Act.put _ (some 23) _ = _
                          simp only [Act.put, List.setIfInBounds_toArray, List.set_cons_zero, List.set_cons_succ, i64_w, i32_w]
                          rfl
                        refine one_ (i := 4) (N := some 142) #[true, true, true, true, true, false, false, false, true, false, false] rfl rfl (one_of HT_.out (by kernel_rfl)) (by decide) (fun K hK => ?_)
                        refine goes_ Try.func15 (by kernel_rfl) rfl #[.agg #[.int .i64 t465, .slice Ao25 t466.length co25], .int .i64 t463, .string t486] (by rfl) rfl rfl (by (try simp only [List.map_toArray, List.map_cons, List.map_nil]); first | done | rfl | (simp only [List.length_drop, List.length_take]; rfl)) ?_
                        with_reducible refine (cell_Put.calls t465 _ _ t466 t463 t486 t487 t488 t491 _ ?side1 ?side2 A83.out).mono ?_
                        (case side1 => repeat (first | exact (Kd.R_reads' HO_471001.out).2.2 | (with_reducible refine Kd.C_alloc ?_ _) | (with_reducible refine Kd.C_drewN ?_ _) | (with_reducible refine Kd.C_drew ?_)))
                        (case side2 => exact (Kd.R_reads' HO_471001.out).2.1)
                        rintro e w91 ⟨v489, rfl, ho0, hb⟩
                        refine ⟨_, rfl, ?_⟩
                        have n0_ := Aside0.mk (Kd.R_elder' (by (with_reducible repeat (first | apply Kd.R_alloc | apply Kd.R_drewN | apply Kd.R_drew)); exact HO_463001.out) (Kd.R_base ho0) hb)
                        have n1_ := Aside0.mk (Kd.R_elder' (by (with_reducible repeat (first | apply Kd.R_alloc | apply Kd.R_drewN | apply Kd.R_drew)); exact HO_471001.out) (Kd.R_base ho0) hb)
                        have n2_ := Aside0.mk (Kd.R_elder' (by (with_reducible repeat (first | apply Kd.R_alloc | apply Kd.R_drewN | apply Kd.R_drew)); exact HO_477001.out) (Kd.R_base ho0) hb)
                        have n3_ := Aside0.mk (Kd.R_lower (Kd.R_new' (Kd.R_new' (Kd.R_new' ho0 (Kd.R_lt (by (with_reducible repeat (first | apply Kd.R_alloc | apply Kd.R_drewN | apply Kd.R_drew)); exact HO_463001.out))) (Kd.R_lt (by (with_reducible repeat (first | apply Kd.R_alloc | apply Kd.R_drewN | apply Kd.R_drew)); exact HO_471001.out))) (Kd.R_lt (by (with_reducible repeat (first | apply Kd.R_alloc | apply Kd.R_drewN | apply Kd.R_drew)); exact HO_477001.out))) (below_size (by repeat (first | (with_reducible first | exact HB.out | apply below_alloc | apply pw_below_drewN | apply below_drew1 | refine below_set ?_ GE462.out | refine below_set ?_ GE470.out | refine below_set ?_ GE476.out | refine below_set ?_ GE492.out) | exact HB.out))))
                        have n4_ := Aside0.mk (blk_below (g := gb462) (o := .cells #[.int .i64 t458, .slice Ao17 t459.length co17] 27 (0, 0)) (by (with_reducible repeat (first | refine blk_drewN ?_ _ | refine blk_drew ?_ | refine blk_alloc ?_ _)); exact BK462.out) hb)
                        have n5_ := Aside0.mk (blk_below (g := gb470) (o := .cells #[.int .i64 t465, .slice Ao25 t466.length co25] 27 (0, 0)) (by (with_reducible repeat (first | refine blk_drewN ?_ _ | refine blk_drew ?_ | refine blk_alloc ?_ _)); exact BK470.out) hb)
                        have n6_ := Aside0.mk (blk_below (g := gb476) (o := .cells #[.int .i64 t471, .slice Ao34 t472.length co34] 27 (0, 0)) (by (with_reducible repeat (first | refine blk_drewN ?_ _ | refine blk_drew ?_ | refine blk_alloc ?_ _)); exact BK476.out) hb)
                        have n7_ := Aside0.mk (blk_below (g := gb492) (o := .cells #[.int .i64 0, .slice none 0 0] 27 (0, 0)) (by (with_reducible repeat (first | refine blk_drewN ?_ _ | refine blk_drew ?_ | refine blk_alloc ?_ _)); exact BK492.out) hb)
                        have n8_ := Aside0.mk (below_step (by repeat (first | (with_reducible first | exact HB.out | apply below_alloc | apply pw_below_drewN | apply below_drew1 | refine below_set ?_ GE462.out | refine below_set ?_ GE470.out | refine below_set ?_ GE476.out | refine below_set ?_ GE492.out) | exact HB.out)) hb)
                        clear HO_463001
                        clear HO_471001
                        clear HO_477001
                        clear BK462
                        clear BK470
                        clear BK476
                        clear BK492
                        clear HB
                        have HO_463001 := n0_
                        have HO_471001 := n1_
                        have HO_477001 := n2_
                        have HO490 := n3_
                        have BK462 := n4_
                        have BK470 := n5_
                        have BK476 := n6_
                        have BK492 := n7_
                        have HB := n8_
                        clear n0_ n1_ n2_ n3_ n4_ n5_ n6_ n7_ n8_
                        (try clear hb)
                        (try clear hb2)
                        (try clear hk)
                        (try clear hi)
                        (try clear ho0)
                        refine hK.out _ _ ⟨(blk_cell BK470.out 0).trans rfl, (blk_cell BK470.out 1).trans rfl⟩ (fun hHeld => ?_)
                        clear hK K
                        refine norm_ (a' := ?_) ?_ ?_
                        rotate_left
                        · show Act.put _ (some 142) _ = _
                          simp only [Act.put, List.setIfInBounds_toArray, List.set_cons_zero, List.set_cons_succ, i64_w, i32_w]
                          rfl
                        refine pure_ (i := 5) (N := some 137) (v := ?_) (a' := ?_) #[true, true, true, true, true, true, false, false, true, false, false] rfl rfl (any_of HT_.out (by kernel_rfl)) (fun _ _ _ h => h) (Or.inl ⟨by rfl, ?_⟩) ?_ ?_
                        rotate_left
                        · intro w'
                          go_simp
                          with_reducible rfl
                        rotate_left
                        · simp only [Act.put, List.setIfInBounds_toArray, List.set_cons_zero, List.set_cons_succ, i64_w, i32_w]
                          rfl
                        refine pure_ (i := 6) (N := some 143) (v := ?_) (a' := ?_) #[true, true, true, true, true, true, true, false, true, false, false] rfl rfl (any_of HT_.out (by kernel_rfl)) (fun _ _ _ h => h) (Or.inl ⟨by rfl, ?_⟩) ?_ ?_
                        rotate_left
                        · intro w'
                          go_simp
                          with_reducible rfl
                        rotate_left
                        · simp only [Act.put, List.setIfInBounds_toArray, List.set_cons_zero, List.set_cons_succ, i64_w, i32_w]
                          rfl
                        refine pure_ (i := 7) (N := some 144) (v := ?_) (a' := ?_) #[true, true, true, true, true, true, true, true, true, false, false] rfl rfl (any_of HT_.out (by kernel_rfl)) (fun _ _ _ h => h) (Or.inl ⟨by rfl, ?_⟩) ?_ ?_
                        rotate_left
                        · intro w'
                          go_simp
                          with_reducible rfl
                        rotate_left
                        · simp only [Act.put, List.setIfInBounds_toArray, List.set_cons_zero, List.set_cons_succ, i64_w, i32_w]
                          rfl
                        exact norm_ (by simp only [putAll, Act.put, List.setIfInBounds_toArray, List.set_cons_zero, List.set_cons_succ]) (hCont (v489, gb492) _ ⟨hHeld, (by (with_reducible repeat (first | apply Kd.R_alloc | apply Kd.R_drewN | apply Kd.R_drew)); exact Kd.R_mono HO490.out (fun _ hk => ⟨hk.1.1.2, ⟨hk.1.2, hk.2⟩⟩)), (by (with_reducible repeat (first | apply Kd.R_alloc | apply Kd.R_drewN | apply Kd.R_drew)); exact Kd.R_mono HO_463001.out (fun _ hk => ⟨hk.2, ⟨hk.1.1, hk.1.2⟩⟩)), (by (with_reducible repeat (first | apply Kd.R_alloc | apply Kd.R_drewN | apply Kd.R_drew)); exact Kd.R_mono HO_471001.out (fun _ hk => ⟨hk.2, ⟨hk.1.1, hk.1.2⟩⟩)), (by (with_reducible repeat (first | apply Kd.R_alloc | apply Kd.R_drewN | apply Kd.R_drew)); exact Kd.R_mono HO_477001.out (fun _ hk => ⟨hk.2, ⟨hk.1.1, hk.1.2⟩⟩)), (by (with_reducible repeat (first | refine blk_drewN ?_ _ | refine blk_drew ?_ | refine blk_alloc ?_ _)); exact BK462.out), (by (with_reducible repeat (first | refine blk_drewN ?_ _ | refine blk_drew ?_ | refine blk_alloc ?_ _)); exact BK470.out), (by (with_reducible repeat (first | refine blk_drewN ?_ _ | refine blk_drew ?_ | refine blk_alloc ?_ _)); exact BK476.out), (by (with_reducible repeat (first | refine blk_drewN ?_ _ | refine blk_drew ?_ | refine blk_alloc ?_ _)); exact BK492.out), GW492.out, GE492.out, NB462_492.out, NB492_462.out, NB470_492.out, NB492_470.out, NB476_492.out, NB492_476.out, (by repeat (first | (with_reducible first | exact HB.out | apply below_alloc | apply pw_below_drewN | apply below_drew1 | refine below_set ?_ GE462.out | refine below_set ?_ GE470.out | refine below_set ?_ GE476.out | refine below_set ?_ GE492.out) | exact HB.out))⟩)
                    · skip
                      refine box_step ?hg (N := 23) ?hd (cs := #[.int .i64 0, .slice none 0 0]) (t := 27) ?hr ?_; (case hd => rfl); (case hg => rfl); (case hr => first | (go_simp; done) | (go_simp; rfl))
                      intro gb492 hg w89 hbox hb
                      have n0_ := Aside0.mk (Kd.R_below (by (with_reducible repeat (first | apply Kd.R_alloc | apply Kd.R_drewN | apply Kd.R_drew)); exact HO_463001.out) hb)
                      have n1_ := Aside0.mk (Kd.R_below (by (with_reducible repeat (first | apply Kd.R_alloc | apply Kd.R_drewN | apply Kd.R_drew)); exact HO_471001.out) hb)
                      have n2_ := Aside0.mk (Kd.R_below (by (with_reducible repeat (first | apply Kd.R_alloc | apply Kd.R_drewN | apply Kd.R_drew)); exact HO_477001.out) hb)
                      have n3_ := Aside0.mk (blk_below (g := gb462) (o := .cells #[.int .i64 t458, .slice Ao17 t459.length co17] 27 (0, 0)) (by (with_reducible repeat (first | refine blk_drewN ?_ _ | refine blk_drew ?_ | refine blk_alloc ?_ _)); exact BK462.out) hb)
                      have n4_ := Aside0.mk (blk_below (g := gb470) (o := .cells #[.int .i64 t465, .slice Ao25 t466.length co25] 27 (0, 0)) (by (with_reducible repeat (first | refine blk_drewN ?_ _ | refine blk_drew ?_ | refine blk_alloc ?_ _)); exact BK470.out) hb)
                      have n5_ := Aside0.mk (blk_below (g := gb476) (o := .cells #[.int .i64 t471, .slice Ao34 t472.length co34] 27 (0, 0)) (by (with_reducible repeat (first | refine blk_drewN ?_ _ | refine blk_drew ?_ | refine blk_alloc ?_ _)); exact BK476.out) hb)
                      have n6_ := Aside0.mk (below_step (by repeat (first | (with_reducible first | exact HB.out | apply below_alloc | apply pw_below_drewN | apply below_drew1 | refine below_set ?_ GE462.out | refine below_set ?_ GE470.out | refine below_set ?_ GE476.out) | exact HB.out)) hb)
                      have n7_ := Aside0.mk (hbox)
                      have n8_ := Aside0.mk ((by rw [hg]; exact (below_size (by repeat (first | (with_reducible first | exact HB.out | apply below_alloc | apply pw_below_drewN | apply below_drew1 | refine below_set ?_ GE462.out | refine below_set ?_ GE470.out | refine below_set ?_ GE476.out) | exact HB.out))) : w.heap.size ≤ gb492))
                      have n9_ := Aside0.mk ((by rw [hg]; exact (below_size (by repeat (first | (with_reducible first | exact HB.out | apply below_alloc | apply pw_below_drewN | apply below_drew1 | refine below_set ?_ GE462.out | refine below_set ?_ GE470.out | refine below_set ?_ GE476.out) | exact HB.out))) : w.heap.size ≤ gb492))
                      have n10_ := Aside0.mk ((by rw [hg]; exact Nat.ne_of_lt (blk_lt (g := gb462) (o := .cells #[.int .i64 t458, .slice Ao17 t459.length co17] 27 (0, 0)) (by (with_reducible repeat (first | refine blk_drewN ?_ _ | refine blk_drew ?_ | refine blk_alloc ?_ _)); exact BK462.out)) : gb462 ≠ gb492))
                      have n11_ := Aside0.mk ((by rw [hg]; exact Nat.ne_of_gt (blk_lt (g := gb462) (o := .cells #[.int .i64 t458, .slice Ao17 t459.length co17] 27 (0, 0)) (by (with_reducible repeat (first | refine blk_drewN ?_ _ | refine blk_drew ?_ | refine blk_alloc ?_ _)); exact BK462.out)) : gb492 ≠ gb462))
                      have n12_ := Aside0.mk ((by rw [hg]; exact Nat.ne_of_lt (blk_lt (g := gb470) (o := .cells #[.int .i64 t465, .slice Ao25 t466.length co25] 27 (0, 0)) (by (with_reducible repeat (first | refine blk_drewN ?_ _ | refine blk_drew ?_ | refine blk_alloc ?_ _)); exact BK470.out)) : gb470 ≠ gb492))
                      have n13_ := Aside0.mk ((by rw [hg]; exact Nat.ne_of_gt (blk_lt (g := gb470) (o := .cells #[.int .i64 t465, .slice Ao25 t466.length co25] 27 (0, 0)) (by (with_reducible repeat (first | refine blk_drewN ?_ _ | refine blk_drew ?_ | refine blk_alloc ?_ _)); exact BK470.out)) : gb492 ≠ gb470))
                      have n14_ := Aside0.mk ((by rw [hg]; exact Nat.ne_of_lt (blk_lt (g := gb476) (o := .cells #[.int .i64 t471, .slice Ao34 t472.length co34] 27 (0, 0)) (by (with_reducible repeat (first | refine blk_drewN ?_ _ | refine blk_drew ?_ | refine blk_alloc ?_ _)); exact BK476.out)) : gb476 ≠ gb492))
                      have n15_ := Aside0.mk ((by rw [hg]; exact Nat.ne_of_gt (blk_lt (g := gb476) (o := .cells #[.int .i64 t471, .slice Ao34 t472.length co34] 27 (0, 0)) (by (with_reducible repeat (first | refine blk_drewN ?_ _ | refine blk_drew ?_ | refine blk_alloc ?_ _)); exact BK476.out)) : gb492 ≠ gb476))
                      clear HO_463001
                      clear HO_471001
                      clear HO_477001
                      clear BK462
                      clear BK470
                      clear BK476
                      clear HB
                      have HO_463001 := n0_
                      have HO_471001 := n1_
                      have HO_477001 := n2_
                      have BK462 := n3_
                      have BK470 := n4_
                      have BK476 := n5_
                      have HB := n6_
                      have BK492 := n7_
                      have GW492 := n8_
                      have GE492 := n9_
                      have NB462_492 := n10_
                      have NB492_462 := n11_
                      have NB470_492 := n12_
                      have NB492_470 := n13_
                      have NB476_492 := n14_
                      have NB492_476 := n15_
                      clear n0_ n1_ n2_ n3_ n4_ n5_ n6_ n7_ n8_ n9_ n10_ n11_ n12_ n13_ n14_ n15_
                      clear hb hbox hg
                      refine hK.out _ _ ⟨(blk_cell BK470.out 0).trans rfl, (blk_cell BK470.out 1).trans rfl⟩ (fun hHeld => ?_)
                      clear hK K
                      refine norm_ (a' := ?_) ?_ ?_
                      rotate_left
                      · show Act.put _ (some 23) _ = _
                        simp only [Act.put, List.setIfInBounds_toArray, List.set_cons_zero, List.set_cons_succ, i64_w, i32_w]
                        rfl
                      refine one_ (i := 3) (N := some 141) #[true, true, true, true, false, false, false, false, true, false, false] rfl rfl (one_of HT_.out (by kernel_rfl)) (by decide) (fun K hK => ?_)
                      refine goes_ Try.func14 (by kernel_rfl) rfl #[.int .i64 a3] (by rfl) rfl rfl (by (try simp only [List.map_toArray, List.map_cons, List.map_nil]); first | done | rfl | (simp only [List.length_drop, List.length_take]; rfl)) ?_
                      with_reducible refine (rootcellarlaw9_cluster.calls k2 a3 t486 _ A82.out).mono ?_
                      rintro e w90 ⟨rfl, hb⟩
                      refine ⟨_, rfl, ?_⟩
                      have n0_ := Aside0.mk (Kd.R_below (by (with_reducible repeat (first | apply Kd.R_alloc | apply Kd.R_drewN | apply Kd.R_drew)); exact HO_463001.out) hb)
                      have n1_ := Aside0.mk (Kd.R_below (by (with_reducible repeat (first | apply Kd.R_alloc | apply Kd.R_drewN | apply Kd.R_drew)); exact HO_471001.out) hb)
                      have n2_ := Aside0.mk (Kd.R_below (by (with_reducible repeat (first | apply Kd.R_alloc | apply Kd.R_drewN | apply Kd.R_drew)); exact HO_477001.out) hb)
                      have n3_ := Aside0.mk (blk_below (g := gb462) (o := .cells #[.int .i64 t458, .slice Ao17 t459.length co17] 27 (0, 0)) (by (with_reducible repeat (first | refine blk_drewN ?_ _ | refine blk_drew ?_ | refine blk_alloc ?_ _)); exact BK462.out) hb)
                      have n4_ := Aside0.mk (blk_below (g := gb470) (o := .cells #[.int .i64 t465, .slice Ao25 t466.length co25] 27 (0, 0)) (by (with_reducible repeat (first | refine blk_drewN ?_ _ | refine blk_drew ?_ | refine blk_alloc ?_ _)); exact BK470.out) hb)
                      have n5_ := Aside0.mk (blk_below (g := gb476) (o := .cells #[.int .i64 t471, .slice Ao34 t472.length co34] 27 (0, 0)) (by (with_reducible repeat (first | refine blk_drewN ?_ _ | refine blk_drew ?_ | refine blk_alloc ?_ _)); exact BK476.out) hb)
                      have n6_ := Aside0.mk (blk_below (g := gb492) (o := .cells #[.int .i64 0, .slice none 0 0] 27 (0, 0)) (by (with_reducible repeat (first | refine blk_drewN ?_ _ | refine blk_drew ?_ | refine blk_alloc ?_ _)); exact BK492.out) hb)
                      have n7_ := Aside0.mk (below_step (by repeat (first | (with_reducible first | exact HB.out | apply below_alloc | apply pw_below_drewN | apply below_drew1 | refine below_set ?_ GE462.out | refine below_set ?_ GE470.out | refine below_set ?_ GE476.out | refine below_set ?_ GE492.out) | exact HB.out)) hb)
                      clear HO_463001
                      clear HO_471001
                      clear HO_477001
                      clear BK462
                      clear BK470
                      clear BK476
                      clear BK492
                      clear HB
                      have HO_463001 := n0_
                      have HO_471001 := n1_
                      have HO_477001 := n2_
                      have BK462 := n3_
                      have BK470 := n4_
                      have BK476 := n5_
                      have BK492 := n6_
                      have HB := n7_
                      clear n0_ n1_ n2_ n3_ n4_ n5_ n6_ n7_
                      (try clear hb)
                      (try clear hb2)
                      (try clear hk)
                      (try clear hi)
                      refine hK.out _ _ ⟨(blk_cell BK470.out 0).trans rfl, (blk_cell BK470.out 1).trans rfl⟩ (fun hHeld => ?_)
                      clear hK K
                      refine norm_ (a' := ?_) ?_ ?_
                      rotate_left
                      · show Act.put _ (some 141) _ = _
                        simp only [Act.put, List.setIfInBounds_toArray, List.set_cons_zero, List.set_cons_succ, i64_w, i32_w]
                        rfl
                      refine one_ (i := 4) (N := some 142) #[true, true, true, true, true, false, false, false, true, false, false] rfl rfl (one_of HT_.out (by kernel_rfl)) (by decide) (fun K hK => ?_)
                      refine goes_ Try.func15 (by kernel_rfl) rfl #[.agg #[.int .i64 t465, .slice Ao25 t466.length co25], .int .i64 t463, .string t486] (by rfl) rfl rfl (by (try simp only [List.map_toArray, List.map_cons, List.map_nil]); first | done | rfl | (simp only [List.length_drop, List.length_take]; rfl)) ?_
                      with_reducible refine (cell_Put.calls t465 _ _ t466 t463 t486 t487 t488 t491 _ ?side1 ?side2 A83.out).mono ?_
                      (case side1 => repeat (first | exact (Kd.R_reads' HO_471001.out).2.2 | (with_reducible refine Kd.C_alloc ?_ _) | (with_reducible refine Kd.C_drewN ?_ _) | (with_reducible refine Kd.C_drew ?_)))
                      (case side2 => exact (Kd.R_reads' HO_471001.out).2.1)
                      rintro e w91 ⟨v489, rfl, ho0, hb⟩
                      refine ⟨_, rfl, ?_⟩
                      have n0_ := Aside0.mk (Kd.R_elder' (by (with_reducible repeat (first | apply Kd.R_alloc | apply Kd.R_drewN | apply Kd.R_drew)); exact HO_463001.out) (Kd.R_base ho0) hb)
                      have n1_ := Aside0.mk (Kd.R_elder' (by (with_reducible repeat (first | apply Kd.R_alloc | apply Kd.R_drewN | apply Kd.R_drew)); exact HO_471001.out) (Kd.R_base ho0) hb)
                      have n2_ := Aside0.mk (Kd.R_elder' (by (with_reducible repeat (first | apply Kd.R_alloc | apply Kd.R_drewN | apply Kd.R_drew)); exact HO_477001.out) (Kd.R_base ho0) hb)
                      have n3_ := Aside0.mk (Kd.R_lower (Kd.R_new' (Kd.R_new' (Kd.R_new' ho0 (Kd.R_lt (by (with_reducible repeat (first | apply Kd.R_alloc | apply Kd.R_drewN | apply Kd.R_drew)); exact HO_463001.out))) (Kd.R_lt (by (with_reducible repeat (first | apply Kd.R_alloc | apply Kd.R_drewN | apply Kd.R_drew)); exact HO_471001.out))) (Kd.R_lt (by (with_reducible repeat (first | apply Kd.R_alloc | apply Kd.R_drewN | apply Kd.R_drew)); exact HO_477001.out))) (below_size (by repeat (first | (with_reducible first | exact HB.out | apply below_alloc | apply pw_below_drewN | apply below_drew1 | refine below_set ?_ GE462.out | refine below_set ?_ GE470.out | refine below_set ?_ GE476.out | refine below_set ?_ GE492.out) | exact HB.out))))
                      have n4_ := Aside0.mk (blk_below (g := gb462) (o := .cells #[.int .i64 t458, .slice Ao17 t459.length co17] 27 (0, 0)) (by (with_reducible repeat (first | refine blk_drewN ?_ _ | refine blk_drew ?_ | refine blk_alloc ?_ _)); exact BK462.out) hb)
                      have n5_ := Aside0.mk (blk_below (g := gb470) (o := .cells #[.int .i64 t465, .slice Ao25 t466.length co25] 27 (0, 0)) (by (with_reducible repeat (first | refine blk_drewN ?_ _ | refine blk_drew ?_ | refine blk_alloc ?_ _)); exact BK470.out) hb)
                      have n6_ := Aside0.mk (blk_below (g := gb476) (o := .cells #[.int .i64 t471, .slice Ao34 t472.length co34] 27 (0, 0)) (by (with_reducible repeat (first | refine blk_drewN ?_ _ | refine blk_drew ?_ | refine blk_alloc ?_ _)); exact BK476.out) hb)
                      have n7_ := Aside0.mk (blk_below (g := gb492) (o := .cells #[.int .i64 0, .slice none 0 0] 27 (0, 0)) (by (with_reducible repeat (first | refine blk_drewN ?_ _ | refine blk_drew ?_ | refine blk_alloc ?_ _)); exact BK492.out) hb)
                      have n8_ := Aside0.mk (below_step (by repeat (first | (with_reducible first | exact HB.out | apply below_alloc | apply pw_below_drewN | apply below_drew1 | refine below_set ?_ GE462.out | refine below_set ?_ GE470.out | refine below_set ?_ GE476.out | refine below_set ?_ GE492.out) | exact HB.out)) hb)
                      clear HO_463001
                      clear HO_471001
                      clear HO_477001
                      clear BK462
                      clear BK470
                      clear BK476
                      clear BK492
                      clear HB
                      have HO_463001 := n0_
                      have HO_471001 := n1_
                      have HO_477001 := n2_
                      have HO490 := n3_
                      have BK462 := n4_
                      have BK470 := n5_
                      have BK476 := n6_
                      have BK492 := n7_
                      have HB := n8_
                      clear n0_ n1_ n2_ n3_ n4_ n5_ n6_ n7_ n8_
                      (try clear hb)
                      (try clear hb2)
                      (try clear hk)
                      (try clear hi)
                      (try clear ho0)
                      refine hK.out _ _ ⟨(blk_cell BK470.out 0).trans rfl, (blk_cell BK470.out 1).trans rfl⟩ (fun hHeld => ?_)
                      clear hK K
                      refine norm_ (a' := ?_) ?_ ?_
                      rotate_left
                      · show Act.put _ (some 142) _ = _
                        simp only [Act.put, List.setIfInBounds_toArray, List.set_cons_zero, List.set_cons_succ, i64_w, i32_w]
                        rfl
                      refine pure_ (i := 5) (N := some 137) (v := ?_) (a' := ?_) #[true, true, true, true, true, true, false, false, true, false, false] rfl rfl (any_of HT_.out (by kernel_rfl)) (fun _ _ _ h => h) (Or.inl ⟨by rfl, ?_⟩) ?_ ?_
                      rotate_left
                      · intro w'
                        go_simp
                        with_reducible rfl
                      rotate_left
                      · simp only [Act.put, List.setIfInBounds_toArray, List.set_cons_zero, List.set_cons_succ, i64_w, i32_w]
                        rfl
                      refine pure_ (i := 6) (N := some 143) (v := ?_) (a' := ?_) #[true, true, true, true, true, true, true, false, true, false, false] rfl rfl (any_of HT_.out (by kernel_rfl)) (fun _ _ _ h => h) (Or.inl ⟨by rfl, ?_⟩) ?_ ?_
                      rotate_left
                      · intro w'
                        go_simp
                        with_reducible rfl
                      rotate_left
                      · simp only [Act.put, List.setIfInBounds_toArray, List.set_cons_zero, List.set_cons_succ, i64_w, i32_w]
                        rfl
                      refine pure_ (i := 7) (N := some 144) (v := ?_) (a' := ?_) #[true, true, true, true, true, true, true, true, true, false, false] rfl rfl (any_of HT_.out (by kernel_rfl)) (fun _ _ _ h => h) (Or.inl ⟨by rfl, ?_⟩) ?_ ?_
                      rotate_left
                      · intro w'
                        go_simp
                        with_reducible rfl
                      rotate_left
                      · simp only [Act.put, List.setIfInBounds_toArray, List.set_cons_zero, List.set_cons_succ, i64_w, i32_w]
                        rfl
                      exact norm_ (by simp only [putAll, Act.put, List.setIfInBounds_toArray, List.set_cons_zero, List.set_cons_succ]) (hCont (v489, gb492) _ ⟨hHeld, (by (with_reducible repeat (first | apply Kd.R_alloc | apply Kd.R_drewN | apply Kd.R_drew)); exact Kd.R_mono HO490.out (fun _ hk => ⟨hk.1.1.2, ⟨hk.1.2, hk.2⟩⟩)), (by (with_reducible repeat (first | apply Kd.R_alloc | apply Kd.R_drewN | apply Kd.R_drew)); exact Kd.R_mono HO_463001.out (fun _ hk => ⟨hk.2, ⟨hk.1.1, hk.1.2⟩⟩)), (by (with_reducible repeat (first | apply Kd.R_alloc | apply Kd.R_drewN | apply Kd.R_drew)); exact Kd.R_mono HO_471001.out (fun _ hk => ⟨hk.2, ⟨hk.1.1, hk.1.2⟩⟩)), (by (with_reducible repeat (first | apply Kd.R_alloc | apply Kd.R_drewN | apply Kd.R_drew)); exact Kd.R_mono HO_477001.out (fun _ hk => ⟨hk.2, ⟨hk.1.1, hk.1.2⟩⟩)), (by (with_reducible repeat (first | refine blk_drewN ?_ _ | refine blk_drew ?_ | refine blk_alloc ?_ _)); exact BK462.out), (by (with_reducible repeat (first | refine blk_drewN ?_ _ | refine blk_drew ?_ | refine blk_alloc ?_ _)); exact BK470.out), (by (with_reducible repeat (first | refine blk_drewN ?_ _ | refine blk_drew ?_ | refine blk_alloc ?_ _)); exact BK476.out), (by (with_reducible repeat (first | refine blk_drewN ?_ _ | refine blk_drew ?_ | refine blk_alloc ?_ _)); exact BK492.out), GW492.out, GE492.out, NB462_492.out, NB492_462.out, NB470_492.out, NB492_470.out, NB476_492.out, NB492_476.out, (by repeat (first | (with_reducible first | exact HB.out | apply below_alloc | apply pw_below_drewN | apply below_drew1 | refine below_set ?_ GE462.out | refine below_set ?_ GE470.out | refine below_set ?_ GE476.out | refine below_set ?_ GE492.out) | exact HB.out))⟩)
                  rintro ⟨v489, gb492⟩ w92 ⟨hS_, h0_, h1_, h2_, h3_, h4_, h5_, h6_, h7_, h8_, h9_, h10_, h11_, h12_, h13_, h14_, h15_, h16_⟩
                  have n0_ : Aside0 (Kd.R k51 51 w92 w.heap.size (fun k_ => some k_ ≠ (.slice Ao17 t459.length co17 : Value).ownBlock ∧ some k_ ≠ (.slice Ao25 t466.length co25 : Value).ownBlock ∧ some k_ ≠ (.slice Ao34 t472.length co34 : Value).ownBlock) v489 t488) := ⟨h0_⟩
                  have n1_ : Aside0 (Kd.R k51 51 w92 w.heap.size (fun k_ => some k_ ≠ (v489 : Value).ownBlock ∧ some k_ ≠ (.slice Ao25 t466.length co25 : Value).ownBlock ∧ some k_ ≠ (.slice Ao34 t472.length co34 : Value).ownBlock) (.slice Ao17 t459.length co17) t459) := ⟨h1_⟩
                  have n2_ : Aside0 (Kd.R k51 51 w92 w.heap.size (fun k_ => some k_ ≠ (v489 : Value).ownBlock ∧ some k_ ≠ (.slice Ao17 t459.length co17 : Value).ownBlock ∧ some k_ ≠ (.slice Ao34 t472.length co34 : Value).ownBlock) (.slice Ao25 t466.length co25) t466) := ⟨h2_⟩
                  have n3_ : Aside0 (Kd.R k51 51 w92 w.heap.size (fun k_ => some k_ ≠ (v489 : Value).ownBlock ∧ some k_ ≠ (.slice Ao17 t459.length co17 : Value).ownBlock ∧ some k_ ≠ (.slice Ao25 t466.length co25 : Value).ownBlock) (.slice Ao34 t472.length co34) t472) := ⟨h3_⟩
                  have n4_ : Aside0 (w92.heap[gb462]? = some (.cells #[.int .i64 t458, .slice Ao17 t459.length co17] 27 (0, 0))) := ⟨h4_⟩
                  have n5_ : Aside0 (w92.heap[gb470]? = some (.cells #[.int .i64 t465, .slice Ao25 t466.length co25] 27 (0, 0))) := ⟨h5_⟩
                  have n6_ : Aside0 (w92.heap[gb476]? = some (.cells #[.int .i64 t471, .slice Ao34 t472.length co34] 27 (0, 0))) := ⟨h6_⟩
                  have n7_ : Aside0 (w92.heap[gb492]? = some (.cells #[.int .i64 0, .slice none 0 0] 27 (0, 0))) := ⟨h7_⟩
                  have n8_ : Aside0 (w.heap.size ≤ gb492) := ⟨h8_⟩
                  have n9_ : Aside0 (w.heap.size ≤ gb492) := ⟨h9_⟩
                  have n10_ : Aside0 (gb462 ≠ gb492) := ⟨h10_⟩
                  have n11_ : Aside0 (gb492 ≠ gb462) := ⟨h11_⟩
                  have n12_ : Aside0 (gb470 ≠ gb492) := ⟨h12_⟩
                  have n13_ : Aside0 (gb492 ≠ gb470) := ⟨h13_⟩
                  have n14_ : Aside0 (gb476 ≠ gb492) := ⟨h14_⟩
                  have n15_ : Aside0 (gb492 ≠ gb476) := ⟨h15_⟩
                  have n16_ : Aside0 (Below w.heap.size w w92) := ⟨h16_⟩
                  clear HO_463001
                  clear HO_471001
                  clear HO_477001
                  clear BK462
                  clear BK470
                  clear BK476
                  clear HB
                  clear h0_ h1_ h2_ h3_ h4_ h5_ h6_ h7_ h8_ h9_ h10_ h11_ h12_ h13_ h14_ h15_ h16_
                  have HO490 := n0_
                  have HO_463001 := n1_
                  have HO_471001 := n2_
                  have HO_477001 := n3_
                  have BK462 := n4_
                  have BK470 := n5_
                  have BK476 := n6_
                  have BK492 := n7_
                  have GW492 := n8_
                  have GE492 := n9_
                  have NB462_492 := n10_
                  have NB492_462 := n11_
                  have NB470_492 := n12_
                  have NB492_470 := n13_
                  have NB476_492 := n14_
                  have NB492_476 := n15_
                  have HB := n16_
                  clear n0_ n1_ n2_ n3_ n4_ n5_ n6_ n7_ n8_ n9_ n10_ n11_ n12_ n13_ n14_ n15_ n16_
                  have hHeld : w92.cell? ⟨gb470, 0, none⟩ = some (.int .i64 t465) ∧ w92.cell? ⟨gb470, 1, none⟩ = some (.slice Ao25 t466.length co25) := hS_
                  obtain ⟨Ao94, co94, eo94⟩ := Kd.R_slice HO490.out
                  (first | subst eo94 | (injection eo94 with f1_ f2_ f3_; have f4_ := f1_.symm; have f5_ := f3_.symm; clear f1_ f2_ f3_; subst f4_; subst f5_))
                  refine norm_ (a' := ?_) ?_ ?_
                  rotate_left
                  · simp only [putAll, Act.put, List.setIfInBounds_toArray, List.set_cons_zero, List.set_cons_succ]
                    rfl
                  refine one_ (i := 9) (N := none) #[true, true, true, true, true, true, true, true, true, true, false] rfl rfl (one_of HT_.out (by kernel_rfl)) (by decide) (fun K hK => ?_)
                  have hs93 : w92.cell? ⟨gb492, 0, none⟩ = some (.int .i64 0) := (blk_cell BK492.out 0).trans rfl
                  have hfs93 := blk_frozen BK492.out 0
                  have hns93_0 := NB462_492.out
                  have hns93_1 := NB470_492.out
                  have hns93_2 := NB476_492.out
                  have hms93_0 := NB492_462.out
                  have hms93_1 := NB492_470.out
                  have hms93_2 := NB492_476.out
                  have hs95 : w92.cell? ⟨gb492, 1, none⟩ = some (.slice none 0 0) := (blk_cell BK492.out 1).trans rfl
                  have hfs95 := blk_frozen BK492.out 1
                  have hns95_0 := NB462_492.out
                  have hns95_1 := NB470_492.out
                  have hns95_2 := NB476_492.out
                  have hms95_0 := NB492_462.out
                  have hms95_1 := NB492_470.out
                  have hms95_2 := NB492_476.out
                  refine skip_ (w1 := ?_) (by rfl) rfl ?_ ?_
                  rotate_left
                  · go_simp
                    rfl
                  refine hK.out _ _ ⟨((cell_far (p := ⟨gb492, _, none⟩) NB470_492.out _).trans (((cell_far (p := ⟨gb492, _, none⟩) NB470_492.out _).trans (hHeld.1)))), ((cell_far (p := ⟨gb492, _, none⟩) NB470_492.out _).trans (((cell_far (p := ⟨gb492, _, none⟩) NB470_492.out _).trans (hHeld.2))))⟩ (fun hHeld => ?_)
                  clear hK K
                  refine pure_ (i := 10) (N := some 24) (v := ?_) (a' := ?_) #[true, true, true, true, true, true, true, true, true, true, true] rfl rfl (any_of HT_.out (by kernel_rfl)) (fun _ _ _ h => h) (Or.inl ⟨by rfl, ?_⟩) ?_ ?_
                  rotate_left
                  · intro w'
                    go_simp
                    with_reducible rfl
                  rotate_left
                  · simp only [Act.put, List.setIfInBounds_toArray, List.set_cons_zero, List.set_cons_succ, i64_w, i32_w]
                    rfl
                  refine done_ (done_of HT_.out (by kernel_rfl)) ?_
                  try go_wp2
                  have n0_ : Aside0 (Kd.R k51 51 ((w92.setCell ⟨gb492, 0, none⟩ (.int .i64 t487)).setCell ⟨gb492, 1, none⟩ (.slice Ao94 t488.length co94)) w.heap.size (fun k_ => some k_ ≠ (.slice Ao25 t466.length co25 : Value).ownBlock ∧ some k_ ≠ (.slice Ao34 t472.length co34 : Value).ownBlock ∧ some k_ ≠ (.slice Ao94 t488.length co94 : Value).ownBlock) (.slice Ao17 t459.length co17) t459) := ⟨by (with_reducible repeat (first | apply Kd.R_alloc | apply Kd.R_drewN | apply Kd.R_drew)); exact Kd.R_mono (Kd.R_far (p := ⟨gb492, 1, none⟩) (Kd.R_far (p := ⟨gb492, 0, none⟩) (Kd.R_types HO_463001.out BK492.out (by decide)) (fun _ hk => hk.2) (.int .i64 t487)) (fun _ hk => hk.2) (.slice Ao94 t488.length co94)) (fun _ hk => ⟨hk.1.2.1, ⟨hk.1.2.2, hk.1.1⟩⟩)⟩
                  have n1_ : Aside0 (Kd.R k51 51 ((w92.setCell ⟨gb492, 0, none⟩ (.int .i64 t487)).setCell ⟨gb492, 1, none⟩ (.slice Ao94 t488.length co94)) w.heap.size (fun k_ => some k_ ≠ (.slice Ao17 t459.length co17 : Value).ownBlock ∧ some k_ ≠ (.slice Ao34 t472.length co34 : Value).ownBlock ∧ some k_ ≠ (.slice Ao94 t488.length co94 : Value).ownBlock) (.slice Ao25 t466.length co25) t466) := ⟨by (with_reducible repeat (first | apply Kd.R_alloc | apply Kd.R_drewN | apply Kd.R_drew)); exact Kd.R_mono (Kd.R_far (p := ⟨gb492, 1, none⟩) (Kd.R_far (p := ⟨gb492, 0, none⟩) (Kd.R_types HO_471001.out BK492.out (by decide)) (fun _ hk => hk.2) (.int .i64 t487)) (fun _ hk => hk.2) (.slice Ao94 t488.length co94)) (fun _ hk => ⟨hk.1.2.1, ⟨hk.1.2.2, hk.1.1⟩⟩)⟩
                  have n2_ : Aside0 (Kd.R k51 51 ((w92.setCell ⟨gb492, 0, none⟩ (.int .i64 t487)).setCell ⟨gb492, 1, none⟩ (.slice Ao94 t488.length co94)) w.heap.size (fun k_ => some k_ ≠ (.slice Ao17 t459.length co17 : Value).ownBlock ∧ some k_ ≠ (.slice Ao25 t466.length co25 : Value).ownBlock ∧ some k_ ≠ (.slice Ao94 t488.length co94 : Value).ownBlock) (.slice Ao34 t472.length co34) t472) := ⟨by (with_reducible repeat (first | apply Kd.R_alloc | apply Kd.R_drewN | apply Kd.R_drew)); exact Kd.R_mono (Kd.R_far (p := ⟨gb492, 1, none⟩) (Kd.R_far (p := ⟨gb492, 0, none⟩) (Kd.R_types HO_477001.out BK492.out (by decide)) (fun _ hk => hk.2) (.int .i64 t487)) (fun _ hk => hk.2) (.slice Ao94 t488.length co94)) (fun _ hk => ⟨hk.1.2.1, ⟨hk.1.2.2, hk.1.1⟩⟩)⟩
                  have n3_ : Aside0 (Kd.R k51 51 ((w92.setCell ⟨gb492, 0, none⟩ (.int .i64 t487)).setCell ⟨gb492, 1, none⟩ (.slice Ao94 t488.length co94)) w.heap.size (fun k_ => some k_ ≠ (.slice Ao17 t459.length co17 : Value).ownBlock ∧ some k_ ≠ (.slice Ao25 t466.length co25 : Value).ownBlock ∧ some k_ ≠ (.slice Ao34 t472.length co34 : Value).ownBlock) (.slice Ao94 t488.length co94) t488) := ⟨by (with_reducible repeat (first | apply Kd.R_alloc | apply Kd.R_drewN | apply Kd.R_drew)); exact Kd.R_mono (Kd.R_far (p := ⟨gb492, 1, none⟩) (Kd.R_far (p := ⟨gb492, 0, none⟩) (Kd.R_types HO490.out BK492.out (by decide)) (fun _ hk => hk.2) (.int .i64 t487)) (fun _ hk => hk.2) (.slice Ao94 t488.length co94)) (fun _ hk => ⟨hk.1.1, ⟨hk.1.2.1, hk.1.2.2⟩⟩)⟩
                  have n4_ : Aside0 (((w92.setCell ⟨gb492, 0, none⟩ (.int .i64 t487)).setCell ⟨gb492, 1, none⟩ (.slice Ao94 t488.length co94)).heap[gb462]? = some (.cells #[.int .i64 t458, .slice Ao17 t459.length co17] 27 (0, 0))) := ⟨by (with_reducible repeat (first | refine blk_drewN ?_ _ | refine blk_drew ?_ | refine blk_alloc ?_ _)); refine blk_far ?_ NB462_492.out _; (with_reducible repeat (first | refine blk_drewN ?_ _ | refine blk_drew ?_ | refine blk_alloc ?_ _)); refine blk_far ?_ NB462_492.out _; (with_reducible repeat (first | refine blk_drewN ?_ _ | refine blk_drew ?_ | refine blk_alloc ?_ _)); exact BK462.out⟩
                  have n5_ : Aside0 (((w92.setCell ⟨gb492, 0, none⟩ (.int .i64 t487)).setCell ⟨gb492, 1, none⟩ (.slice Ao94 t488.length co94)).heap[gb470]? = some (.cells #[.int .i64 t465, .slice Ao25 t466.length co25] 27 (0, 0))) := ⟨by (with_reducible repeat (first | refine blk_drewN ?_ _ | refine blk_drew ?_ | refine blk_alloc ?_ _)); refine blk_far ?_ NB470_492.out _; (with_reducible repeat (first | refine blk_drewN ?_ _ | refine blk_drew ?_ | refine blk_alloc ?_ _)); refine blk_far ?_ NB470_492.out _; (with_reducible repeat (first | refine blk_drewN ?_ _ | refine blk_drew ?_ | refine blk_alloc ?_ _)); exact BK470.out⟩
                  have n6_ : Aside0 (((w92.setCell ⟨gb492, 0, none⟩ (.int .i64 t487)).setCell ⟨gb492, 1, none⟩ (.slice Ao94 t488.length co94)).heap[gb476]? = some (.cells #[.int .i64 t471, .slice Ao34 t472.length co34] 27 (0, 0))) := ⟨by (with_reducible repeat (first | refine blk_drewN ?_ _ | refine blk_drew ?_ | refine blk_alloc ?_ _)); refine blk_far ?_ NB476_492.out _; (with_reducible repeat (first | refine blk_drewN ?_ _ | refine blk_drew ?_ | refine blk_alloc ?_ _)); refine blk_far ?_ NB476_492.out _; (with_reducible repeat (first | refine blk_drewN ?_ _ | refine blk_drew ?_ | refine blk_alloc ?_ _)); exact BK476.out⟩
                  have n7_ : Aside0 (((w92.setCell ⟨gb492, 0, none⟩ (.int .i64 t487)).setCell ⟨gb492, 1, none⟩ (.slice Ao94 t488.length co94)).heap[gb492]? = some (.cells #[.int .i64 t487, .slice Ao94 t488.length co94] 27 (0, 0))) := ⟨by (with_reducible repeat (first | refine blk_drewN ?_ _ | refine blk_drew ?_ | refine blk_alloc ?_ _)); refine blk_put (cs := #[.int .i64 t487, .slice none 0 0]) ?_ 1 _ rfl; (with_reducible repeat (first | refine blk_drewN ?_ _ | refine blk_drew ?_ | refine blk_alloc ?_ _)); refine blk_put (cs := #[.int .i64 0, .slice none 0 0]) ?_ 0 _ rfl; (with_reducible repeat (first | refine blk_drewN ?_ _ | refine blk_drew ?_ | refine blk_alloc ?_ _)); exact BK492.out⟩
                  have n8_ : Aside0 (Below w.heap.size w ((w92.setCell ⟨gb492, 0, none⟩ (.int .i64 t487)).setCell ⟨gb492, 1, none⟩ (.slice Ao94 t488.length co94))) := ⟨by repeat (first | (with_reducible first | exact HB.out | apply below_alloc | apply pw_below_drewN | apply below_drew1 | refine below_set ?_ GE462.out | refine below_set ?_ GE470.out | refine below_set ?_ GE476.out | refine below_set ?_ GE492.out) | exact HB.out)⟩
                  (try clear HO_463001)
                  (try clear HO_471001)
                  (try clear HO_477001)
                  (try clear HO490)
                  (try clear BK462)
                  (try clear BK470)
                  (try clear BK476)
                  (try clear BK492)
                  (try clear HB)
                  generalize ((w92.setCell ⟨gb492, 0, none⟩ (.int .i64 t487)).setCell ⟨gb492, 1, none⟩ (.slice Ao94 t488.length co94)) = w96 at n0_ n1_ n2_ n3_ n4_ n5_ n6_ n7_ n8_ ⊢
                  have HO_463001 := n0_
                  have HO_471001 := n1_
                  have HO_477001 := n2_
                  have HO490 := n3_
                  have BK462 := n4_
                  have BK470 := n5_
                  have BK476 := n6_
                  have BK492 := n7_
                  have HB := n8_
                  clear n0_ n1_ n2_ n3_ n4_ n5_ n6_ n7_ n8_
                  have n0_ := Aside0.mk (Kd.R_drew HO_463001.out)
                  have n1_ := Aside0.mk (Kd.R_drew HO_471001.out)
                  have n2_ := Aside0.mk (Kd.R_drew HO_477001.out)
                  have n3_ := Aside0.mk (Kd.R_drew HO490.out)
                  have n4_ := Aside0.mk (blk_drew BK462.out)
                  have n5_ := Aside0.mk (blk_drew BK470.out)
                  have n6_ := Aside0.mk (blk_drew BK476.out)
                  have n7_ := Aside0.mk (blk_drew BK492.out)
                  have n8_ := Aside0.mk (below_drew1 HB.out)
                  clear HO_463001
                  clear HO_471001
                  clear HO_477001
                  clear HO490
                  clear BK462
                  clear BK470
                  clear BK476
                  clear BK492
                  clear HB
                  have HO_463001 := n0_
                  have HO_471001 := n1_
                  have HO_477001 := n2_
                  have HO490 := n3_
                  have BK462 := n4_
                  have BK470 := n5_
                  have BK476 := n6_
                  have BK492 := n7_
                  have HB := n8_
                  clear n0_ n1_ n2_ n3_ n4_ n5_ n6_ n7_ n8_
                  refine start_ (n := 22) (S := fun w' => w'.cell? ⟨gb492, 0, none⟩ = some (.int .i64 t487) ∧ w'.cell? ⟨gb492, 1, none⟩ = some (.slice Ao94 t488.length co94) ∧ w'.cell? ⟨gb470, 0, none⟩ = some (.int .i64 t465) ∧ w'.cell? ⟨gb470, 1, none⟩ = some (.slice Ao25 t466.length co25) ∧ w'.cell? ⟨gb476, 0, none⟩ = some (.int .i64 t471) ∧ w'.cell? ⟨gb476, 1, none⟩ = some (.slice Ao34 t472.length co34)) (ds := []) #[false, false, false, false, false, false, false, false, false, false, false, false, false, false, false, false, false, false, false, false, false, false] (by kernel_rfl) rfl rfl ⟨(blk_cell BK492.out 0).trans rfl, (blk_cell BK492.out 1).trans rfl, (blk_cell BK470.out 0).trans rfl, (blk_cell BK470.out 1).trans rfl, (blk_cell BK476.out 0).trans rfl, (blk_cell BK476.out 1).trans rfl⟩ (fun hHeld => ?_); refine with_tabW rootcellarlaw9_CellPut.tab18 rootcellarlaw9_CellPut.bits18 (fun HT_ HW_ => ?_)
                  generalize w96.drew = w97 at HO_463001 HO_471001 HO_477001 HO490 BK462 BK470 BK476 BK492 HB hHeld ⊢
                  refine take_ (i := 0) (N := some 145) (v := ?_) (a' := ?_) #[true, false, false, false, false, false, false, false, false, false, false, false, false, false, false, false, false, false, false, false, false, false] rfl rfl (take_ofW HT_.out HW_.out (by kernel_rfl)) (fun _ _ _ h => h) (Or.inl ⟨by rfl, ?_⟩) hHeld ?_ ?_
                  rotate_left
                  · rintro w' ⟨s0, s1, s2, s3, s4, s5⟩
                    go_simp
                    with_reducible rfl
                  rotate_left
                  · simp only [Act.put, List.setIfInBounds_toArray, List.set_cons_zero, List.set_cons_succ, i64_w, i32_w]
                    rfl
                  refine take_ (i := 1) (N := some 146) (v := ?_) (a' := ?_) #[true, true, false, false, false, false, false, false, false, false, false, false, false, false, false, false, false, false, false, false, false, false] rfl rfl (take_ofW HT_.out HW_.out (by kernel_rfl)) (fun _ _ _ h => h) (Or.inl ⟨by rfl, ?_⟩) hHeld ?_ ?_
                  rotate_left
                  · rintro w' ⟨s0, s1, s2, s3, s4, s5⟩
                    go_simp
                    with_reducible rfl
                  rotate_left
                  · simp only [Act.put, List.setIfInBounds_toArray, List.set_cons_zero, List.set_cons_succ, i64_w, i32_w]
                    rfl
                  refine one_ (i := 2) (N := some 147) #[true, true, true, false, false, false, false, false, false, false, false, false, false, false, false, false, false, false, false, false, false, false] rfl rfl (one_of HT_.out (by kernel_rfl)) (by decide) (fun K hK => ?_)
                  refine goes_ Try.func19 (by kernel_rfl) rfl #[.agg #[.int .i64 t465, .slice Ao25 t466.length co25]] (by rfl) rfl rfl (by (try simp only [List.map_toArray, List.map_cons, List.map_nil]); first | done | rfl | (simp only [List.length_drop, List.length_take]; rfl)) ?_
                  with_reducible refine (rootcellarlaw9_as.calls k2 t465 _ _ t466 t493 t494 _ ?side1 ?side2 A84.out).mono ?_
                  (case side1 => repeat (first | exact (Kd.R_reads' HO_471001.out).2.2 | (with_reducible refine Kd.C_alloc ?_ _) | (with_reducible refine Kd.C_drewN ?_ _) | (with_reducible refine Kd.C_drew ?_)))
                  (case side2 => exact (Kd.R_reads' HO_471001.out).2.1)
                  rintro e w98 ⟨v495, rfl, ho0, hb⟩
                  refine ⟨_, rfl, ?_⟩
                  have n0_ := Aside0.mk (Kd.R_below (by (with_reducible repeat (first | apply Kd.R_alloc | apply Kd.R_drewN | apply Kd.R_drew)); exact HO_463001.out) hb)
                  have n1_ := Aside0.mk (Kd.R_below (by (with_reducible repeat (first | apply Kd.R_alloc | apply Kd.R_drewN | apply Kd.R_drew)); exact HO_471001.out) hb)
                  have n2_ := Aside0.mk (Kd.R_below (by (with_reducible repeat (first | apply Kd.R_alloc | apply Kd.R_drewN | apply Kd.R_drew)); exact HO_477001.out) hb)
                  have n3_ := Aside0.mk (Kd.R_below (by (with_reducible repeat (first | apply Kd.R_alloc | apply Kd.R_drewN | apply Kd.R_drew)); exact HO490.out) hb)
                  have n4_ := Aside0.mk (Kd.R_lower ho0 (below_size (by repeat (first | (with_reducible first | exact HB.out | apply below_alloc | apply pw_below_drewN | apply below_drew1 | refine below_set ?_ GE462.out | refine below_set ?_ GE470.out | refine below_set ?_ GE476.out | refine below_set ?_ GE492.out) | exact HB.out))))
                  have n5_ := Aside0.mk (blk_below (g := gb462) (o := .cells #[.int .i64 t458, .slice Ao17 t459.length co17] 27 (0, 0)) (by (with_reducible repeat (first | refine blk_drewN ?_ _ | refine blk_drew ?_ | refine blk_alloc ?_ _)); exact BK462.out) hb)
                  have n6_ := Aside0.mk (blk_below (g := gb470) (o := .cells #[.int .i64 t465, .slice Ao25 t466.length co25] 27 (0, 0)) (by (with_reducible repeat (first | refine blk_drewN ?_ _ | refine blk_drew ?_ | refine blk_alloc ?_ _)); exact BK470.out) hb)
                  have n7_ := Aside0.mk (blk_below (g := gb476) (o := .cells #[.int .i64 t471, .slice Ao34 t472.length co34] 27 (0, 0)) (by (with_reducible repeat (first | refine blk_drewN ?_ _ | refine blk_drew ?_ | refine blk_alloc ?_ _)); exact BK476.out) hb)
                  have n8_ := Aside0.mk (blk_below (g := gb492) (o := .cells #[.int .i64 t487, .slice Ao94 t488.length co94] 27 (0, 0)) (by (with_reducible repeat (first | refine blk_drewN ?_ _ | refine blk_drew ?_ | refine blk_alloc ?_ _)); exact BK492.out) hb)
                  have n9_ := Aside0.mk (below_step (by repeat (first | (with_reducible first | exact HB.out | apply below_alloc | apply pw_below_drewN | apply below_drew1 | refine below_set ?_ GE462.out | refine below_set ?_ GE470.out | refine below_set ?_ GE476.out | refine below_set ?_ GE492.out) | exact HB.out)) hb)
                  clear HO_463001
                  clear HO_471001
                  clear HO_477001
                  clear HO490
                  clear BK462
                  clear BK470
                  clear BK476
                  clear BK492
                  clear HB
                  have HO_463001 := n0_
                  have HO_471001 := n1_
                  have HO_477001 := n2_
                  have HO490 := n3_
                  have HO496 := n4_
                  have BK462 := n5_
                  have BK470 := n6_
                  have BK476 := n7_
                  have BK492 := n8_
                  have HB := n9_
                  clear n0_ n1_ n2_ n3_ n4_ n5_ n6_ n7_ n8_ n9_
                  (try clear hb)
                  (try clear hb2)
                  (try clear hk)
                  (try clear hi)
                  (try clear ho0)
                  obtain ⟨Ao99, co99, eo99⟩ := Kd.R_slice HO496.out
                  (first | subst eo99 | (injection eo99 with f1_ f2_ f3_; have f4_ := f1_.symm; have f5_ := f3_.symm; clear f1_ f2_ f3_; subst f4_; subst f5_))
                  refine hK.out _ _ ⟨(blk_cell BK492.out 0).trans rfl, (blk_cell BK492.out 1).trans rfl, (blk_cell BK470.out 0).trans rfl, (blk_cell BK470.out 1).trans rfl, (blk_cell BK476.out 0).trans rfl, (blk_cell BK476.out 1).trans rfl⟩ (fun hHeld => ?_)
                  clear hK K
                  refine norm_ (a' := ?_) ?_ ?_
                  rotate_left
                  · show Act.put _ (some 147) _ = _
                    simp only [Act.put, List.setIfInBounds_toArray, List.set_cons_zero, List.set_cons_succ, i64_w, i32_w]
                    rfl
                  refine one_ (i := 3) (N := some 148) #[true, true, true, true, false, false, false, false, false, false, false, false, false, false, false, false, false, false, false, false, false, false] rfl rfl (one_of HT_.out (by kernel_rfl)) (by decide) (fun K hK => ?_)
                  refine goes_ Try.func18 (by kernel_rfl) rfl #[.agg #[.int .i64 t487, .slice Ao94 t488.length co94], .agg #[.int .i64 t493, .slice Ao99 t494.length co99]] (by rfl) rfl rfl (by (try simp only [List.map_toArray, List.map_cons, List.map_nil]); first | done | rfl | (simp only [List.length_drop, List.length_take]; rfl)) ?_
                  with_reducible refine (rootcellarlaw9_same.calls k2 t487 _ _ t488 t493 _ _ t494 true _ ?side1 ?side2 ?side3 ?side4 A85.out).mono ?_
                  (case side1 => repeat (first | exact (Kd.R_reads' HO490.out).2.2 | (with_reducible refine Kd.C_alloc ?_ _) | (with_reducible refine Kd.C_drewN ?_ _) | (with_reducible refine Kd.C_drew ?_)))
                  (case side2 => exact (Kd.R_reads' HO490.out).2.1)
                  (case side3 => repeat (first | exact (Kd.R_reads' HO496.out).2.2 | (with_reducible refine Kd.C_alloc ?_ _) | (with_reducible refine Kd.C_drewN ?_ _) | (with_reducible refine Kd.C_drew ?_)))
                  (case side4 => exact (Kd.R_reads' HO496.out).2.1)
                  rintro e w100 ⟨rfl, hb⟩
                  refine ⟨_, rfl, ?_⟩
                  have n0_ := Aside0.mk (Kd.R_below (by (with_reducible repeat (first | apply Kd.R_alloc | apply Kd.R_drewN | apply Kd.R_drew)); exact HO_463001.out) hb)
                  have n1_ := Aside0.mk (Kd.R_below (by (with_reducible repeat (first | apply Kd.R_alloc | apply Kd.R_drewN | apply Kd.R_drew)); exact HO_471001.out) hb)
                  have n2_ := Aside0.mk (Kd.R_below (by (with_reducible repeat (first | apply Kd.R_alloc | apply Kd.R_drewN | apply Kd.R_drew)); exact HO_477001.out) hb)
                  have n3_ := Aside0.mk (Kd.R_below (by (with_reducible repeat (first | apply Kd.R_alloc | apply Kd.R_drewN | apply Kd.R_drew)); exact HO490.out) hb)
                  have n4_ := Aside0.mk (Kd.R_below (by (with_reducible repeat (first | apply Kd.R_alloc | apply Kd.R_drewN | apply Kd.R_drew)); exact HO496.out) hb)
                  have n5_ := Aside0.mk (blk_below (g := gb462) (o := .cells #[.int .i64 t458, .slice Ao17 t459.length co17] 27 (0, 0)) (by (with_reducible repeat (first | refine blk_drewN ?_ _ | refine blk_drew ?_ | refine blk_alloc ?_ _)); exact BK462.out) hb)
                  have n6_ := Aside0.mk (blk_below (g := gb470) (o := .cells #[.int .i64 t465, .slice Ao25 t466.length co25] 27 (0, 0)) (by (with_reducible repeat (first | refine blk_drewN ?_ _ | refine blk_drew ?_ | refine blk_alloc ?_ _)); exact BK470.out) hb)
                  have n7_ := Aside0.mk (blk_below (g := gb476) (o := .cells #[.int .i64 t471, .slice Ao34 t472.length co34] 27 (0, 0)) (by (with_reducible repeat (first | refine blk_drewN ?_ _ | refine blk_drew ?_ | refine blk_alloc ?_ _)); exact BK476.out) hb)
                  have n8_ := Aside0.mk (blk_below (g := gb492) (o := .cells #[.int .i64 t487, .slice Ao94 t488.length co94] 27 (0, 0)) (by (with_reducible repeat (first | refine blk_drewN ?_ _ | refine blk_drew ?_ | refine blk_alloc ?_ _)); exact BK492.out) hb)
                  have n9_ := Aside0.mk (below_step (by repeat (first | (with_reducible first | exact HB.out | apply below_alloc | apply pw_below_drewN | apply below_drew1 | refine below_set ?_ GE462.out | refine below_set ?_ GE470.out | refine below_set ?_ GE476.out | refine below_set ?_ GE492.out) | exact HB.out)) hb)
                  clear HO_463001
                  clear HO_471001
                  clear HO_477001
                  clear HO490
                  clear HO496
                  clear BK462
                  clear BK470
                  clear BK476
                  clear BK492
                  clear HB
                  have HO_463001 := n0_
                  have HO_471001 := n1_
                  have HO_477001 := n2_
                  have HO490 := n3_
                  have HO496 := n4_
                  have BK462 := n5_
                  have BK470 := n6_
                  have BK476 := n7_
                  have BK492 := n8_
                  have HB := n9_
                  clear n0_ n1_ n2_ n3_ n4_ n5_ n6_ n7_ n8_ n9_
                  (try clear hb)
                  (try clear hb2)
                  (try clear hk)
                  (try clear hi)
                  refine hK.out _ _ ⟨(blk_cell BK492.out 0).trans rfl, (blk_cell BK492.out 1).trans rfl, (blk_cell BK470.out 0).trans rfl, (blk_cell BK470.out 1).trans rfl, (blk_cell BK476.out 0).trans rfl, (blk_cell BK476.out 1).trans rfl⟩ (fun hHeld => ?_)
                  clear hK K
                  refine norm_ (a' := ?_) ?_ ?_
                  rotate_left
                  · show Act.put _ (some 148) _ = _
                    simp only [Act.put, List.setIfInBounds_toArray, List.set_cons_zero, List.set_cons_succ, i64_w, i32_w]
                    rfl
                  refine pure_ (i := 4) (N := some 149) (v := ?_) (a' := ?_) #[true, true, true, true, true, false, false, false, false, false, false, false, false, false, false, false, false, false, false, false, false, false] rfl rfl (any_of HT_.out (by kernel_rfl)) (fun _ _ _ h => h) (Or.inl ⟨by rfl, ?_⟩) ?_ ?_
                  rotate_left
                  · intro w'
                    go_simp
                    with_reducible rfl
                  rotate_left
                  · simp only [Act.put, List.setIfInBounds_toArray, List.set_cons_zero, List.set_cons_succ, i64_w, i32_w]
                    rfl
                  refine pure_ (i := 5) (N := some 150) (v := ?_) (a' := ?_) #[true, true, true, true, true, true, false, false, false, false, false, false, false, false, false, false, false, false, false, false, false, false] rfl rfl (any_of HT_.out (by kernel_rfl)) (fun _ _ _ h => h) (Or.inl ⟨by rfl, ?_⟩) ?_ ?_
                  rotate_left
                  · intro w'
                    go_simp
                    with_reducible rfl
                  rotate_left
                  · simp only [Act.put, List.setIfInBounds_toArray, List.set_cons_zero, List.set_cons_succ, i64_w, i32_w]
                    rfl
                  refine pure_ (i := 8) (N := some 153) (v := ?_) (a' := ?_) #[true, true, true, true, true, true, false, false, true, false, false, false, false, false, false, false, false, false, false, false, false, false] rfl rfl (any_of HT_.out (by kernel_rfl)) (fun _ _ _ h => h) (Or.inl ⟨by rfl, ?_⟩) ?_ ?_
                  rotate_left
                  · intro w'
                    go_simp
                    with_reducible rfl
                  rotate_left
                  · simp only [Act.put, List.setIfInBounds_toArray, List.set_cons_zero, List.set_cons_succ, i64_w, i32_w]
                    rfl
                  refine take_ (i := 6) (N := some 151) (v := ?_) (a' := ?_) #[true, true, true, true, true, true, true, false, true, false, false, false, false, false, false, false, false, false, false, false, false, false] rfl rfl (take_ofW HT_.out HW_.out (by kernel_rfl)) (fun _ _ _ h => h) (Or.inl ⟨by rfl, ?_⟩) hHeld ?_ ?_
                  rotate_left
                  · rintro w' ⟨s0, s1, s2, s3, s4, s5⟩
                    go_simp
                    with_reducible rfl
                  rotate_left
                  · simp only [Act.put, List.setIfInBounds_toArray, List.set_cons_zero, List.set_cons_succ, i64_w, i32_w]
                    rfl
                  refine pure_ (i := 7) (N := some 152) (v := ?_) (a' := ?_) #[true, true, true, true, true, true, true, true, true, false, false, false, false, false, false, false, false, false, false, false, false, false] rfl rfl (any_of HT_.out (by kernel_rfl)) (fun _ _ _ h => h) (Or.inl ⟨by rfl, ?_⟩) ?_ ?_
                  rotate_left
                  · intro w'
                    go_simp
                    with_reducible rfl
                  rotate_left
                  · simp only [Act.put, List.setIfInBounds_toArray, List.set_cons_zero, List.set_cons_succ, i64_w, i32_w]
                    rfl
                  refine pure_ (i := 9) (N := some 154) (v := ?_) (a' := ?_) #[true, true, true, true, true, true, true, true, true, true, false, false, false, false, false, false, false, false, false, false, false, false] rfl rfl (any_of HT_.out (by kernel_rfl)) (fun _ _ _ h => h) (Or.inl ⟨by rfl, ?_⟩) ?_ ?_
                  rotate_left
                  · intro w'
                    go_simp
                    with_reducible rfl
                  rotate_left
                  · simp only [Act.put, List.setIfInBounds_toArray, List.set_cons_zero, List.set_cons_succ, i64_w, i32_w]
                    rfl
                  refine pure_ (i := 10) (N := some 155) (v := ?_) (a' := ?_) #[true, true, true, true, true, true, true, true, true, true, true, false, false, false, false, false, false, false, false, false, false, false] rfl rfl (any_of HT_.out (by kernel_rfl)) (fun _ _ _ h => h) (Or.inl ⟨by rfl, ?_⟩) ?_ ?_
                  rotate_left
                  · intro w'
                    go_simp
                    with_reducible rfl
                  rotate_left
                  · simp only [Act.put, List.setIfInBounds_toArray, List.set_cons_zero, List.set_cons_succ, i64_w, i32_w]
                    rfl
                  refine pure_ (i := 11) (N := some 156) (v := ?_) (a' := ?_) #[true, true, true, true, true, true, true, true, true, true, true, true, false, false, false, false, false, false, false, false, false, false] rfl rfl (any_of HT_.out (by kernel_rfl)) (fun _ _ _ h => h) (Or.inl ⟨by rfl, ?_⟩) ?_ ?_
                  rotate_left
                  · intro w'
                    go_simp
                    with_reducible rfl
                  rotate_left
                  · simp only [Act.put, List.setIfInBounds_toArray, List.set_cons_zero, List.set_cons_succ, i64_w, i32_w]
                    rfl
                  refine pure_ (i := 12) (N := some 157) (v := ?_) (a' := ?_) #[true, true, true, true, true, true, true, true, true, true, true, true, true, false, false, false, false, false, false, false, false, false] rfl rfl (any_of HT_.out (by kernel_rfl)) (fun _ _ _ h => h) (Or.inl ⟨by rfl, ?_⟩) ?_ ?_
                  rotate_left
                  · intro w'
                    go_simp
                    with_reducible rfl
                  rotate_left
                  · simp only [Act.put, List.setIfInBounds_toArray, List.set_cons_zero, List.set_cons_succ, i64_w, i32_w]
                    rfl
                  refine pure_ (i := 15) (N := some 160) (v := ?_) (a' := ?_) #[true, true, true, true, true, true, true, true, true, true, true, true, true, false, false, true, false, false, false, false, false, false] rfl rfl (any_of HT_.out (by kernel_rfl)) (fun _ _ _ h => h) (Or.inl ⟨by rfl, ?_⟩) ?_ ?_
                  rotate_left
                  · intro w'
                    go_simp
                    with_reducible rfl
                  rotate_left
                  · simp only [Act.put, List.setIfInBounds_toArray, List.set_cons_zero, List.set_cons_succ, i64_w, i32_w]
                    rfl
                  refine take_ (i := 13) (N := some 158) (v := ?_) (a' := ?_) #[true, true, true, true, true, true, true, true, true, true, true, true, true, true, false, true, false, false, false, false, false, false] rfl rfl (take_ofW HT_.out HW_.out (by kernel_rfl)) (fun _ _ _ h => h) (Or.inl ⟨by rfl, ?_⟩) hHeld ?_ ?_
                  rotate_left
                  · rintro w' ⟨s0, s1, s2, s3, s4, s5⟩
                    go_simp
                    with_reducible rfl
                  rotate_left
                  · simp only [Act.put, List.setIfInBounds_toArray, List.set_cons_zero, List.set_cons_succ, i64_w, i32_w]
                    rfl
                  refine pure_ (i := 14) (N := some 159) (v := ?_) (a' := ?_) #[true, true, true, true, true, true, true, true, true, true, true, true, true, true, true, true, false, false, false, false, false, false] rfl rfl (any_of HT_.out (by kernel_rfl)) (fun _ _ _ h => h) (Or.inl ⟨by rfl, ?_⟩) ?_ ?_
                  rotate_left
                  · intro w'
                    go_simp
                    with_reducible rfl
                  rotate_left
                  · simp only [Act.put, List.setIfInBounds_toArray, List.set_cons_zero, List.set_cons_succ, i64_w, i32_w]
                    rfl
                  refine take_ (i := 16) (N := some 161) (v := ?_) (a' := ?_) #[true, true, true, true, true, true, true, true, true, true, true, true, true, true, true, true, true, false, false, false, false, false] rfl rfl (take_ofW HT_.out HW_.out (by kernel_rfl)) (fun _ _ _ h => h) (Or.inl ⟨by rfl, ?_⟩) hHeld ?_ ?_
                  rotate_left
                  · rintro w' ⟨s0, s1, s2, s3, s4, s5⟩
                    go_simp
                    with_reducible rfl
                  rotate_left
                  · simp only [Act.put, List.setIfInBounds_toArray, List.set_cons_zero, List.set_cons_succ, i64_w, i32_w]
                    rfl
                  refine pure_ (i := 17) (N := some 162) (v := ?_) (a' := ?_) #[true, true, true, true, true, true, true, true, true, true, true, true, true, true, true, true, true, true, false, false, false, false] rfl rfl (any_of HT_.out (by kernel_rfl)) (fun _ _ _ h => h) (Or.inl ⟨by rfl, ?_⟩) ?_ ?_
                  rotate_left
                  · intro w'
                    go_simp
                    with_reducible rfl
                  rotate_left
                  · simp only [Act.put, List.setIfInBounds_toArray, List.set_cons_zero, List.set_cons_succ, i64_w, i32_w]
                    rfl
                  refine pure_ (i := 18) (N := some 163) (v := ?_) (a' := ?_) #[true, true, true, true, true, true, true, true, true, true, true, true, true, true, true, true, true, true, true, false, false, false] rfl rfl (any_of HT_.out (by kernel_rfl)) (fun _ _ _ h => h) (Or.inl ⟨by rfl, ?_⟩) ?_ ?_
                  rotate_left
                  · intro w'
                    go_simp
                    with_reducible rfl
                  rotate_left
                  · simp only [Act.put, List.setIfInBounds_toArray, List.set_cons_zero, List.set_cons_succ, i64_w, i32_w]
                    rfl
                  refine pure_ (i := 19) (N := some 164) (v := ?_) (a' := ?_) #[true, true, true, true, true, true, true, true, true, true, true, true, true, true, true, true, true, true, true, true, false, false] rfl rfl (any_of HT_.out (by kernel_rfl)) (fun _ _ _ h => h) (Or.inl ⟨by rfl, ?_⟩) ?_ ?_
                  rotate_left
                  · intro w'
                    go_simp
                    with_reducible rfl
                  rotate_left
                  · simp only [Act.put, List.setIfInBounds_toArray, List.set_cons_zero, List.set_cons_succ, i64_w, i32_w]
                    rfl
                  refine pure_ (i := 20) (N := some 165) (v := ?_) (a' := ?_) #[true, true, true, true, true, true, true, true, true, true, true, true, true, true, true, true, true, true, true, true, true, false] rfl rfl (any_of HT_.out (by kernel_rfl)) (fun _ _ _ h => h) (Or.inl ⟨by rfl, ?_⟩) ?_ ?_
                  rotate_left
                  · intro w'
                    go_simp
                    with_reducible rfl
                  rotate_left
                  · simp only [Act.put, List.setIfInBounds_toArray, List.set_cons_zero, List.set_cons_succ, i64_w, i32_w]
                    rfl
                  refine pure_ (i := 21) (N := some 8) (v := ?_) (a' := ?_) #[true, true, true, true, true, true, true, true, true, true, true, true, true, true, true, true, true, true, true, true, true, true] rfl rfl (any_of HT_.out (by kernel_rfl)) (fun _ _ _ h => h) (Or.inl ⟨by rfl, ?_⟩) ?_ ?_
                  rotate_left
                  · intro w'
                    go_simp
                    with_reducible rfl
                  rotate_left
                  · simp only [Act.put, List.setIfInBounds_toArray, List.set_cons_zero, List.set_cons_succ, i64_w, i32_w]
                    rfl
                  refine done_ (done_of HT_.out (by kernel_rfl)) ?_
                  try go_wp2
                  go_ret
                  exact ⟨by first | rfl | (simp [errW_none, errW_some] <;> rfl) | (simp [*, errW_none, errW_some] <;> rfl), by repeat (first | (with_reducible first | exact HB.out | apply below_alloc | apply pw_below_drewN | apply below_drew1 | refine below_set ?_ GE462.out | refine below_set ?_ GE470.out | refine below_set ?_ GE476.out | refine below_set ?_ GE492.out) | exact HB.out)⟩
                · rw [if_neg c87] at H
                  have c87b0 : decide ((t466.length : Int) ≤ (wrap64 (1 + t457))) = false := decide_eq_false c87
                  clear c87
                  exact absurd H (by simp)
              · replace c86 := Bool.eq_false_iff.mpr c86
                subst c86
                have H1 : (none) = some r := by rw [if_neg (show ¬ (false = true) by decide)] at H; exact H
                clear H
                have H := H1
                clear H1
                exact absurd H (by simp)

/-- THE ONE PURE STATEMENT of rootcellarlaw9_CellPut: yours. -/
def rootcellarlaw9_CellPut.Pure : Prop := ∀ (a0 : Int) (l1 : List Int) (a2 : Int) (a3 : Int), (Lit.int .i64 a0).wf = true → l1.length ≤ maxLen → l1.length * 8 ≤ 140737488351232 → (∀ x ∈ l1, (Lit.int .i64 x).wf = true) → (Lit.int .i64 a2).wf = true → (Lit.int .i64 a3).wf = true → ∃ k, rootcellarlaw9_CellPut.f k a0 l1 a2 a3 = some true
theorem rootcellarlaw9_CellPut.walk (P : rootcellarlaw9_CellPut.Pure) (a0 : Int) (a1 : Option Addr) (len1 cap1 : Nat) (z1 : List Int) (a2 : Int) (a3 : Int) (w : World) (w0 : (Lit.int .i64 a0).wf = true) (w1 : (a1 = none ∧ len1 = 0 ∧ cap1 = 0 ∧ z1 = []) ∨ ∃ x, a1 = some x ∧ len1 ≤ cap1 ∧ cap1 ≤ maxLen ∧ z1.length = cap1 ∧ (∀ i, i < z1.length → w.cell? (x.add i) = some (.int .i64 (z1.getD i 0))) ∧ ∀ n ∈ z1, (Lit.int .i64 n).wf = true) (y1 : len1 * 8 ≤ 140737488351232) (w2 : (Lit.int .i64 a2).wf = true) (w3 : (Lit.int .i64 a3).wf = true) :
    Calls Try.prog 7 #[.int .i64 a0, .slice a1 len1 cap1, .int .i64 a2, .int .i64 a3] w fun e w' => e = .returned (.bool true) ∧ Below w.heap.size w w' := by
  obtain ⟨l1, rfl, hr1, hm1, hw1, hc1⟩ := ReadsInt.ofRowC w1
  obtain ⟨k, h⟩ := P a0 l1 a2 a3 w0 hm1 y1 hw1 w2 w3
  refine (rootcellarlaw9_CellPut.calls k a0 _ _ l1 a2 a3 true w (Kd.C_of_reads (d := (0 : Int)) (h1 := fun _ => rfl) hr1) hc1 h).mono ?_
  rintro e w' ⟨rfl, hd⟩
  exact ⟨rfl, hd⟩

end Go.Proofs.Ytnjhgbhafpnclaa.Pr
