-- Printed by a program of this session (wip/pr/hook.py) by way of the kit's printer; contracts of my own beside it.
import Derived.Test.YtnjhgbhafpnclaaPrx0
import Derived.Test.YtnjhgbhafpnclaaPrx1
import Derived.Test.YtnjhgbhafpnclaaPrx2
import Derived.Test.YtnjhgbhafpnclaaPrx3
import Derived.Test.YtnjhgbhafpnclaaPrx4
import Derived.Test.YtnjhgbhafpnclaaHFlat
import Derived.Test.YtnjhgbhafpnclaaHPut
namespace Go.Proofs.Ytnjhgbhafpnclaa.Pr
open Go.RowKit Go.Proofs.YtnjhgbhafpnclaaW.PrintWords Go.Proofs.YtnjhgbhafpnclaaW.PrintLast Go.Proofs.YtnjhgbhafpnclaaW.PrintMore
attribute [local go_sem] max2_int min2_int max_two min_two max_three min_three max_four min_four   -- for this text's walks alone
set_option linter.unusedVariables false
set_option linter.unusedSimpArgs false

/-! ### rootcellarlaw9_CellFlat: function 3 -/
mutual
def rootcellarlaw9_CellFlat.j0 : Nat → List Int → Int → ByteArray → Bool → Int → List (S51) → Option (Bool)
 | 0, _, _, _, _, _, _ => none
 | k + 1, x1, x6, x8, x33, x156000, x156001 => if x33 = true then (none) else ((cell_New.f x6).bind fun bt157 => (rootcellarlaw9_CellFlat.l0 k x1 x6 x8 0 x156000 x156001 bt157.1 bt157.2.1))
def rootcellarlaw9_CellFlat.l0 : Nat → List Int → Int → ByteArray → Int → Int → List (S51) → Int → List (S51) → Option (Bool)
 | 0, _, _, _, _, _, _, _, _ => none
 | k + 1, x1, x6, x8, x11, x156000, x156001, x163000, x163001 => if x11 < x6 then ((cell_Get.f x156000 x156001 x11).bind fun bt164 => (if bt164.2 = true then (rootcellarlaw9_CellFlat.j2 k x1 x6 x8 x11 bt164.1 bt164.2 x156000 x156001 x163000 x163001) else ((rootcellarlaw9_cluster.f k 0).bind fun t166 => (rootcellarlaw9_CellFlat.j2 k x1 x6 x8 x11 t166 bt164.2 x156000 x156001 x163000 x163001)))) else ((cell_Flat.f x163000 x163001).bind fun t163 => (if t163.toList = x8.toList then (some ((x163001.length : Int) == x6)) else (none)))
def rootcellarlaw9_CellFlat.j2 : Nat → List Int → Int → ByteArray → Int → ByteArray → Bool → Int → List (S51) → Int → List (S51) → Option (Bool)
 | 0, _, _, _, _, _, _, _, _, _, _ => none
 | k + 1, x1, x6, x8, x11, x12, x13, x156000, x156001, x163000, x163001 => rootcellarlaw9_CellFlat.l1 k x1 x6 x8 x11 x12 x13 (⟨#[]⟩ : ByteArray) 0 x156000 x156001 x163000 x163001
def rootcellarlaw9_CellFlat.l1 : Nat → List Int → Int → ByteArray → Int → ByteArray → Bool → ByteArray → Int → Int → List (S51) → Int → List (S51) → Option (Bool)
 | 0, _, _, _, _, _, _, _, _, _, _, _, _ => none
 | k + 1, x1, x6, x8, x11, x12, x13, x14, x15, x156000, x156001, x163000, x163001 => if x15 < (x1.length : Int) then (rootcellarlaw9_CellFlat.j4 k x1 x6 x8 x11 x12 x13 x14 x15 (decide (x15 < 80)) x156000 x156001 x163000 x163001) else (rootcellarlaw9_CellFlat.j4 k x1 x6 x8 x11 x12 x13 x14 x15 false x156000 x156001 x163000 x163001)
def rootcellarlaw9_CellFlat.j4 : Nat → List Int → Int → ByteArray → Int → ByteArray → Bool → ByteArray → Int → Bool → Int → List (S51) → Int → List (S51) → Option (Bool)
 | 0, _, _, _, _, _, _, _, _, _, _, _, _, _ => none
 | k + 1, x1, x6, x8, x11, x12, x13, x14, x15, x60, x156000, x156001, x163000, x163001 => if x60 = true then (if 0 ≤ x15 then (if x15 < (x1.length : Int) then ((rootcellarlaw9_pick.f (rd x1 x15) x6).bind fun t178 => (if t178 = x11 then ((rootcellarlaw9_cluster.f k (rd x1 x15)).bind fun t180 => (rootcellarlaw9_CellFlat.l1 k x1 x6 x8 x11 x12 x13 t180 (wrap64 (x15 + 1)) x156000 x156001 x163000 x163001)) else (rootcellarlaw9_CellFlat.l1 k x1 x6 x8 x11 x12 x13 x14 (wrap64 (x15 + 1)) x156000 x156001 x163000 x163001))) else (none)) else (none)) else (if 0 ≤ (wrap64 (16 * x11)) then (if (wrap64 (16 * x11)) ≤ (wrap64 ((wrap64 (16 * x11)) + 16)) then (if (wrap64 ((wrap64 (16 * x11)) + 16)) ≤ (x8.size : Int) then (if x12.toList = (x8.extract ((wrap64 (16 * x11)) : Int).toNat ((wrap64 ((wrap64 (16 * x11)) + 16)) : Int).toNat).toList then (if ((x14.toList != ([] : List UInt8)) != x13) = true then (none) else (if x13 = true then (if x12.toList = x14.toList then ((cell_Put.f x163000 x163001 x11 x12).bind fun bt167 => (rootcellarlaw9_CellFlat.l0 k x1 x6 x8 (wrap64 (x11 + 1)) x156000 x156001 bt167.1 bt167.2.1)) else (none)) else ((cell_Put.f x163000 x163001 x11 x12).bind fun bt172 => (rootcellarlaw9_CellFlat.l0 k x1 x6 x8 (wrap64 (x11 + 1)) x156000 x156001 bt172.1 bt172.2.1)))) else (none)) else (none)) else (none)) else (none))
end
def rootcellarlaw9_CellFlat.f (k : Nat) (a0 : Int) (l1 : List Int) : Option (Bool) := (rootcellarlaw9_shown.f k).bind fun t149 => ((rootcellarlaw9_pick.f a0 64).bind fun t150 => ((rootcellarlaw9_made.f k (wrap64 (1 + t150)) l1).bind fun bt151 => ((cell_Flat.f bt151.1 bt151.2).bind fun t156 => (if t149 = true then (rootcellarlaw9_CellFlat.j0 k l1 (wrap64 (1 + t150)) t156 ((t156.size : Int) != (wrap64 (16 * (wrap64 (1 + t150))))) bt151.1 bt151.2) else (none)))))
theorem rootcellarlaw9_CellFlat.mono_l : ∀ k, (∀ y0 y1 y2 y3 y4 y5, LeO (rootcellarlaw9_CellFlat.j0 k y0 y1 y2 y3 y4 y5) (rootcellarlaw9_CellFlat.j0 (k + 1) y0 y1 y2 y3 y4 y5)) ∧ (∀ y0 y1 y2 y3 y4 y5 y6 y7, LeO (rootcellarlaw9_CellFlat.l0 k y0 y1 y2 y3 y4 y5 y6 y7) (rootcellarlaw9_CellFlat.l0 (k + 1) y0 y1 y2 y3 y4 y5 y6 y7)) ∧ (∀ y0 y1 y2 y3 y4 y5 y6 y7 y8 y9, LeO (rootcellarlaw9_CellFlat.j2 k y0 y1 y2 y3 y4 y5 y6 y7 y8 y9) (rootcellarlaw9_CellFlat.j2 (k + 1) y0 y1 y2 y3 y4 y5 y6 y7 y8 y9)) ∧ (∀ y0 y1 y2 y3 y4 y5 y6 y7 y8 y9 y10 y11, LeO (rootcellarlaw9_CellFlat.l1 k y0 y1 y2 y3 y4 y5 y6 y7 y8 y9 y10 y11) (rootcellarlaw9_CellFlat.l1 (k + 1) y0 y1 y2 y3 y4 y5 y6 y7 y8 y9 y10 y11)) ∧ (∀ y0 y1 y2 y3 y4 y5 y6 y7 y8 y9 y10 y11 y12, LeO (rootcellarlaw9_CellFlat.j4 k y0 y1 y2 y3 y4 y5 y6 y7 y8 y9 y10 y11 y12) (rootcellarlaw9_CellFlat.j4 (k + 1) y0 y1 y2 y3 y4 y5 y6 y7 y8 y9 y10 y11 y12))
 | 0 => ⟨fun _ _ _ _ _ _ r h => by simp [rootcellarlaw9_CellFlat.j0] at h, fun _ _ _ _ _ _ _ _ r h => by simp [rootcellarlaw9_CellFlat.l0] at h, fun _ _ _ _ _ _ _ _ _ _ r h => by simp [rootcellarlaw9_CellFlat.j2] at h, fun _ _ _ _ _ _ _ _ _ _ _ _ r h => by simp [rootcellarlaw9_CellFlat.l1] at h, fun _ _ _ _ _ _ _ _ _ _ _ _ _ r h => by simp [rootcellarlaw9_CellFlat.j4] at h⟩
 | k + 1 => by
  obtain ⟨ih0, ih1, ih2, ih3, ih4⟩ := rootcellarlaw9_CellFlat.mono_l k
  refine ⟨?_, ?_, ?_, ?_, ?_⟩
  ·intro y0 y1 y2 y3 y4 y5
   unfold rootcellarlaw9_CellFlat.j0
   repeat' first
   | (with_reducible exact ih0 _ _ _ _ _ _)
   | (with_reducible exact ih1 _ _ _ _ _ _ _ _)
   | (with_reducible exact ih2 _ _ _ _ _ _ _ _ _ _)
   | (with_reducible exact ih3 _ _ _ _ _ _ _ _ _ _ _ _)
   | (with_reducible exact ih4 _ _ _ _ _ _ _ _ _ _ _ _ _)
   | (with_reducible exact rootcellarlaw9_cluster.mono _ _)
   | (with_reducible exact rootcellarlaw9_made.mono _ _ _)
   | (with_reducible exact rootcellarlaw9_shown.mono _)
   | (with_reducible exact LeO.refl _)
   | (with_reducible exact LeO.none _)
   | (with_reducible refine LeO.ite ?_ ?_)
   | (with_reducible refine LeO.bind ?_ (fun _ => ?_))
   | exact ih0 _ _ _ _ _ _
   | exact ih1 _ _ _ _ _ _ _ _
   | exact ih2 _ _ _ _ _ _ _ _ _ _
   | exact ih3 _ _ _ _ _ _ _ _ _ _ _ _
   | exact ih4 _ _ _ _ _ _ _ _ _ _ _ _ _
   | exact rootcellarlaw9_cluster.mono _ _
   | exact rootcellarlaw9_made.mono _ _ _
   | exact rootcellarlaw9_shown.mono _
   | exact LeO.none _
   | refine LeO.ite ?_ ?_
   | refine LeO.bind ?_ (fun _ => ?_)
  ·intro y0 y1 y2 y3 y4 y5 y6 y7
   unfold rootcellarlaw9_CellFlat.l0
   repeat' first
   | (with_reducible exact ih0 _ _ _ _ _ _)
   | (with_reducible exact ih1 _ _ _ _ _ _ _ _)
   | (with_reducible exact ih2 _ _ _ _ _ _ _ _ _ _)
   | (with_reducible exact ih3 _ _ _ _ _ _ _ _ _ _ _ _)
   | (with_reducible exact ih4 _ _ _ _ _ _ _ _ _ _ _ _ _)
   | (with_reducible exact rootcellarlaw9_cluster.mono _ _)
   | (with_reducible exact rootcellarlaw9_made.mono _ _ _)
   | (with_reducible exact rootcellarlaw9_shown.mono _)
   | (with_reducible exact LeO.refl _)
   | (with_reducible exact LeO.none _)
   | (with_reducible refine LeO.ite ?_ ?_)
   | (with_reducible refine LeO.bind ?_ (fun _ => ?_))
   | exact ih0 _ _ _ _ _ _
   | exact ih1 _ _ _ _ _ _ _ _
   | exact ih2 _ _ _ _ _ _ _ _ _ _
   | exact ih3 _ _ _ _ _ _ _ _ _ _ _ _
   | exact ih4 _ _ _ _ _ _ _ _ _ _ _ _ _
   | exact rootcellarlaw9_cluster.mono _ _
   | exact rootcellarlaw9_made.mono _ _ _
   | exact rootcellarlaw9_shown.mono _
   | exact LeO.none _
   | refine LeO.ite ?_ ?_
   | refine LeO.bind ?_ (fun _ => ?_)
  ·intro y0 y1 y2 y3 y4 y5 y6 y7 y8 y9
   unfold rootcellarlaw9_CellFlat.j2
   repeat' first
   | (with_reducible exact ih0 _ _ _ _ _ _)
   | (with_reducible exact ih1 _ _ _ _ _ _ _ _)
   | (with_reducible exact ih2 _ _ _ _ _ _ _ _ _ _)
   | (with_reducible exact ih3 _ _ _ _ _ _ _ _ _ _ _ _)
   | (with_reducible exact ih4 _ _ _ _ _ _ _ _ _ _ _ _ _)
   | (with_reducible exact rootcellarlaw9_cluster.mono _ _)
   | (with_reducible exact rootcellarlaw9_made.mono _ _ _)
   | (with_reducible exact rootcellarlaw9_shown.mono _)
   | (with_reducible exact LeO.refl _)
   | (with_reducible exact LeO.none _)
   | (with_reducible refine LeO.ite ?_ ?_)
   | (with_reducible refine LeO.bind ?_ (fun _ => ?_))
   | exact ih0 _ _ _ _ _ _
   | exact ih1 _ _ _ _ _ _ _ _
   | exact ih2 _ _ _ _ _ _ _ _ _ _
   | exact ih3 _ _ _ _ _ _ _ _ _ _ _ _
   | exact ih4 _ _ _ _ _ _ _ _ _ _ _ _ _
   | exact rootcellarlaw9_cluster.mono _ _
   | exact rootcellarlaw9_made.mono _ _ _
   | exact rootcellarlaw9_shown.mono _
   | exact LeO.none _
   | refine LeO.ite ?_ ?_
   | refine LeO.bind ?_ (fun _ => ?_)
  ·intro y0 y1 y2 y3 y4 y5 y6 y7 y8 y9 y10 y11
   unfold rootcellarlaw9_CellFlat.l1
   repeat' first
   | (with_reducible exact ih0 _ _ _ _ _ _)
   | (with_reducible exact ih1 _ _ _ _ _ _ _ _)
   | (with_reducible exact ih2 _ _ _ _ _ _ _ _ _ _)
   | (with_reducible exact ih3 _ _ _ _ _ _ _ _ _ _ _ _)
   | (with_reducible exact ih4 _ _ _ _ _ _ _ _ _ _ _ _ _)
   | (with_reducible exact rootcellarlaw9_cluster.mono _ _)
   | (with_reducible exact rootcellarlaw9_made.mono _ _ _)
   | (with_reducible exact rootcellarlaw9_shown.mono _)
   | (with_reducible exact LeO.refl _)
   | (with_reducible exact LeO.none _)
   | (with_reducible refine LeO.ite ?_ ?_)
   | (with_reducible refine LeO.bind ?_ (fun _ => ?_))
   | exact ih0 _ _ _ _ _ _
   | exact ih1 _ _ _ _ _ _ _ _
   | exact ih2 _ _ _ _ _ _ _ _ _ _
   | exact ih3 _ _ _ _ _ _ _ _ _ _ _ _
   | exact ih4 _ _ _ _ _ _ _ _ _ _ _ _ _
   | exact rootcellarlaw9_cluster.mono _ _
   | exact rootcellarlaw9_made.mono _ _ _
   | exact rootcellarlaw9_shown.mono _
   | exact LeO.none _
   | refine LeO.ite ?_ ?_
   | refine LeO.bind ?_ (fun _ => ?_)
  ·intro y0 y1 y2 y3 y4 y5 y6 y7 y8 y9 y10 y11 y12
   unfold rootcellarlaw9_CellFlat.j4
   repeat' first
   | (with_reducible exact ih0 _ _ _ _ _ _)
   | (with_reducible exact ih1 _ _ _ _ _ _ _ _)
   | (with_reducible exact ih2 _ _ _ _ _ _ _ _ _ _)
   | (with_reducible exact ih3 _ _ _ _ _ _ _ _ _ _ _ _)
   | (with_reducible exact ih4 _ _ _ _ _ _ _ _ _ _ _ _ _)
   | (with_reducible exact rootcellarlaw9_cluster.mono _ _)
   | (with_reducible exact rootcellarlaw9_made.mono _ _ _)
   | (with_reducible exact rootcellarlaw9_shown.mono _)
   | (with_reducible exact LeO.refl _)
   | (with_reducible exact LeO.none _)
   | (with_reducible refine LeO.ite ?_ ?_)
   | (with_reducible refine LeO.bind ?_ (fun _ => ?_))
   | exact ih0 _ _ _ _ _ _
   | exact ih1 _ _ _ _ _ _ _ _
   | exact ih2 _ _ _ _ _ _ _ _ _ _
   | exact ih3 _ _ _ _ _ _ _ _ _ _ _ _
   | exact ih4 _ _ _ _ _ _ _ _ _ _ _ _ _
   | exact rootcellarlaw9_cluster.mono _ _
   | exact rootcellarlaw9_made.mono _ _ _
   | exact rootcellarlaw9_shown.mono _
   | exact LeO.none _
   | refine LeO.ite ?_ ?_
   | refine LeO.bind ?_ (fun _ => ?_)
theorem rootcellarlaw9_CellFlat.mono : ∀ a0 a1 k, LeO (rootcellarlaw9_CellFlat.f k a0 a1) (rootcellarlaw9_CellFlat.f (k + 1) a0 a1) := by
 intro a0 a1 k
 obtain ⟨ih0, ih1, ih2, ih3, ih4⟩ := rootcellarlaw9_CellFlat.mono_l k
 unfold rootcellarlaw9_CellFlat.f
 repeat' first
   | (with_reducible exact ih0 _ _ _ _ _ _)
   | (with_reducible exact ih1 _ _ _ _ _ _ _ _)
   | (with_reducible exact ih2 _ _ _ _ _ _ _ _ _ _)
   | (with_reducible exact ih3 _ _ _ _ _ _ _ _ _ _ _ _)
   | (with_reducible exact ih4 _ _ _ _ _ _ _ _ _ _ _ _ _)
   | (with_reducible exact rootcellarlaw9_cluster.mono _ _)
   | (with_reducible exact rootcellarlaw9_made.mono _ _ _)
   | (with_reducible exact rootcellarlaw9_shown.mono _)
   | (with_reducible exact LeO.refl _)
   | (with_reducible exact LeO.none _)
   | (with_reducible refine LeO.ite ?_ ?_)
   | (with_reducible refine LeO.bind ?_ (fun _ => ?_))
   | exact ih0 _ _ _ _ _ _
   | exact ih1 _ _ _ _ _ _ _ _
   | exact ih2 _ _ _ _ _ _ _ _ _ _
   | exact ih3 _ _ _ _ _ _ _ _ _ _ _ _
   | exact ih4 _ _ _ _ _ _ _ _ _ _ _ _ _
   | exact rootcellarlaw9_cluster.mono _ _
   | exact rootcellarlaw9_made.mono _ _ _
   | exact rootcellarlaw9_shown.mono _
   | exact LeO.none _
   | refine LeO.ite ?_ ?_
   | refine LeO.bind ?_ (fun _ => ?_)
set_option maxHeartbeats 8000000 in
set_option maxRecDepth 100000 in
theorem rootcellarlaw9_CellFlat.calls (k : Nat) (a0 : Int) (A1 : Option Addr) (c1 : Nat) (l1 : List Int) (r : Bool) (w : World) (hr1 : Kd.C (Kd.int .i64) w A1 l1.length l1) (hc1 : l1.length ≤ c1) (h : rootcellarlaw9_CellFlat.f k a0 l1 = some r) :
  Calls Try.prog 3 #[.int .i64 a0, .slice A1 l1.length c1] w fun e w' => e = .returned (.bool r) ∧ Below w.heap.size w w' := by
 have hu27 := Try.underlying27
 have HR1 := Aside0.mk hr1
 have HC1 := Aside0.mk hc1
 clear hr1 hc1
 have HB := Aside0.mk (Below.refl w.heap.size w)
 have H : ((rootcellarlaw9_shown.f k).bind fun t149 => ((rootcellarlaw9_pick.f a0 64).bind fun t150 => ((rootcellarlaw9_made.f k (wrap64 (1 + t150)) l1).bind fun bt151 => ((cell_Flat.f bt151.1 bt151.2).bind fun t156 => (if t149 = true then (rootcellarlaw9_CellFlat.j0 k l1 (wrap64 (1 + t150)) t156 ((t156.size : Int) != (wrap64 (16 * (wrap64 (1 + t150))))) bt151.1 bt151.2) else (none)))))) = some r := h
 clear h
 replace H := Option.bind_eq_some_iff.mp H
 obtain ⟨t149, A30, H⟩ := H
 replace H : ((rootcellarlaw9_pick.f a0 64).bind fun t150 => ((rootcellarlaw9_made.f k (wrap64 (1 + t150)) l1).bind fun bt151 => ((cell_Flat.f bt151.1 bt151.2).bind fun t156 => (if t149 = true then (rootcellarlaw9_CellFlat.j0 k l1 (wrap64 (1 + t150)) t156 ((t156.size : Int) != (wrap64 (16 * (wrap64 (1 + t150))))) bt151.1 bt151.2) else (none))))) = some r := H
 have A3 := Aside0.mk A30
 clear A30
 replace H := Option.bind_eq_some_iff.mp H
 obtain ⟨t150, A40, H⟩ := H
 replace H : ((rootcellarlaw9_made.f k (wrap64 (1 + t150)) l1).bind fun bt151 => ((cell_Flat.f bt151.1 bt151.2).bind fun t156 => (if t149 = true then (rootcellarlaw9_CellFlat.j0 k l1 (wrap64 (1 + t150)) t156 ((t156.size : Int) != (wrap64 (16 * (wrap64 (1 + t150))))) bt151.1 bt151.2) else (none)))) = some r := H
 have A4 := Aside0.mk A40
 clear A40
 replace H := Option.bind_eq_some_iff.mp H
 obtain ⟨⟨t151, t152⟩, A50, H⟩ := H
 replace H : ((cell_Flat.f t151 t152).bind fun t156 => (if t149 = true then (rootcellarlaw9_CellFlat.j0 k l1 (wrap64 (1 + t150)) t156 ((t156.size : Int) != (wrap64 (16 * (wrap64 (1 + t150))))) t151 t152) else (none))) = some r := H
 have A5 := Aside0.mk A50
 clear A50
 replace H := Option.bind_eq_some_iff.mp H
 obtain ⟨t156, A60, H⟩ := H
 replace H : (if t149 = true then (rootcellarlaw9_CellFlat.j0 k l1 (wrap64 (1 + t150)) t156 ((t156.size : Int) != (wrap64 (16 * (wrap64 (1 + t150))))) t151 t152) else (none)) = some r := H
 have A6 := Aside0.mk A60
 clear A60
 have HC7 := Aside0.mk H
 clear H
 go_enter Try.func3, Try.ntmps3
 go_upto_region 5 with (first | ((with_reducible refine gate_callee (f := 8) rfl ?_); refine goesL_ (some 16) rfl rfl Try.func8 (by kernel_rfl) rfl #[] rfl (by (try simp only [List.map_toArray, List.map_cons, List.map_nil]); first | done | rfl | (simp only [List.length_drop, List.length_take]; rfl)) ?_; (with_reducible refine (rootcellarlaw9_shown.calls k  t149 _ A3.out).mono ?_); rintro e w8 ⟨rfl, hb⟩; refine ⟨_, rfl, ?_⟩; have n0_ := Aside0.mk (below_step (by repeat (first | (with_reducible first | exact HB.out | apply below_alloc | apply pw_below_drewN | apply below_drew1) | exact HB.out)) hb); clear HB; have HB := n0_; clear n0_; (try clear hb); (try clear hb2); (try clear hk); (try clear hi)) | ((with_reducible refine gate_callee (f := 9) rfl ?_); refine goesL_ (some 18) rfl rfl Try.func9 (by kernel_rfl) rfl #[.int .i64 a0, .int .i64 64] rfl (by (try simp only [List.map_toArray, List.map_cons, List.map_nil]); first | done | rfl | (simp only [List.length_drop, List.length_take]; rfl)) ?_; (with_reducible refine (rootcellarlaw9_pick.calls a0 64 t150 _ A4.out).mono ?_); rintro e w' ⟨rfl, ⟨nd, rfl⟩⟩; refine ⟨_, rfl, ?_⟩; (try (rw [drewN_self w8]; generalize hq_ : World.drewN w8 _ = w8; have n0_ : Aside0 (Below w.heap.size w w8) := ⟨by rw [← hq_]; exact (by repeat (first | (with_reducible first | exact HB.out | apply below_alloc | apply pw_below_drewN | apply below_drew1) | exact HB.out))⟩; clear HB hq_; have HB := n0_; clear n0_))) | ((with_reducible refine gate_callee (f := 10) rfl ?_); refine goesL_ (some 22) rfl rfl Try.func10 (by kernel_rfl) rfl #[.int .i64 (wrap64 (1 + t150)), .slice A1 l1.length c1] rfl (by (try simp only [List.map_toArray, List.map_cons, List.map_nil]); first | done | rfl | (simp only [List.length_drop, List.length_take]; rfl)) ?_; (with_reducible refine (rootcellarlaw9_made.calls k (wrap64 (1 + t150)) _ _ l1 t151 t152 _ ?side1 ?side2 A5.out).mono ?_); (case side1 => repeat (first | exact (Kd.C_below HR1.out HB.out) | (with_reducible refine Kd.C_alloc ?_ _) | (with_reducible refine Kd.C_drewN ?_ _) | (with_reducible refine Kd.C_drew ?_))); (case side2 => exact HC1.out); rintro e w9 ⟨v153, rfl, ho0, hb⟩; refine ⟨_, rfl, ?_⟩; have n0_ := Aside0.mk (Kd.R_lower ho0 (below_size (by repeat (first | (with_reducible first | exact HB.out | apply below_alloc | apply pw_below_drewN | apply below_drew1) | exact HB.out)))); have n1_ := Aside0.mk (below_step (by repeat (first | (with_reducible first | exact HB.out | apply below_alloc | apply pw_below_drewN | apply below_drew1) | exact HB.out)) hb); clear HB; have HO154 := n0_; have HB := n1_; clear n0_ n1_; (try clear hb); (try clear hb2); (try clear hk); (try clear hi); (try clear ho0)) | ((with_reducible refine gate_dst (N := 7) rfl ?_); (try (refine gate_guard (by rfl) ?_; dsimp only)); refine box_event ?hg (N := 7) ?hd (cs := #[.int .i64 0, .slice none 0 0]) (t := 27) ?hr ?_; (case hd => rfl); (case hg => rfl); (case hr => first | (go_simp; done) | (go_simp; rfl)); intro gb155 hg w10 hbox hb; have n0_ := Aside0.mk (Kd.R_below (by (with_reducible repeat (first | apply Kd.R_alloc | apply Kd.R_drewN | apply Kd.R_drew)); exact HO154.out) hb); have n1_ := Aside0.mk (below_step (by repeat (first | (with_reducible first | exact HB.out | apply below_alloc | apply pw_below_drewN | apply below_drew1) | exact HB.out)) hb); have n2_ := Aside0.mk (hbox); have n3_ := Aside0.mk ((by rw [hg]; exact (below_size (by repeat (first | (with_reducible first | exact HB.out | apply below_alloc | apply pw_below_drewN | apply below_drew1) | exact HB.out))) : w.heap.size ≤ gb155)); have n4_ := Aside0.mk ((by rw [hg]; exact (below_size (by repeat (first | (with_reducible first | exact HB.out | apply below_alloc | apply pw_below_drewN | apply below_drew1) | exact HB.out))) : w.heap.size ≤ gb155)); clear HO154; clear HB; have HO154 := n0_; have HB := n1_; have BK155 := n2_; have GW155 := n3_; have GE155 := n4_; clear n0_ n1_ n2_ n3_ n4_; clear hb hbox hg; have hcz11_0 : w10.cell? ⟨gb155, 0, none⟩ = some (.int .i64 0) := (blk_cell BK155.out 0).trans rfl; have hcz11_1 : w10.cell? ⟨gb155, 1, none⟩ = some (.slice none 0 0) := (blk_cell BK155.out 1).trans rfl; have hfz11_0 := blk_frozen BK155.out 0; have hfz11_1 := blk_frozen BK155.out 1; obtain ⟨Ao12, co12, eo12⟩ := Kd.R_slice HO154.out; subst eo12) | ((with_reducible refine gate_callee (f := 11) rfl ?_); refine goesL_ (some 24) rfl rfl Try.func11 (by kernel_rfl) rfl #[.agg #[.int .i64 t151, .slice Ao12 t152.length co12]] rfl (by (try simp only [List.map_toArray, List.map_cons, List.map_nil]); first | done | rfl | (simp only [List.length_drop, List.length_take]; rfl)) ?_; (with_reducible refine (cell_Flat.calls t151 _ _ t152 t156 _ ?side1 ?side2 A6.out).mono ?_); (case side1 => refine (Kd.R_reads' (e := 51) (base := w.heap.size) (ok := fun k_ => True) (n := t152.length) (c := co12) ?_).2.2; exact (by (with_reducible repeat (first | apply Kd.R_alloc | apply Kd.R_drewN | apply Kd.R_drew)); exact (Kd.R_mono (Kd.R_far (p := ⟨gb155, 1, none⟩) (Kd.R_far (p := ⟨gb155, 0, none⟩) (Kd.R_types HO154.out BK155.out (by decide)) (fun _ hk => hk.2) (.int .i64 t151)) (fun _ hk => hk.2) (.slice Ao12 t152.length co12)) (fun _ h_ => h_.1)))); (case side2 => exact (Kd.R_reads' HO154.out).2.1); rintro e w13 ⟨rfl, hb⟩; refine ⟨_, rfl, ?_⟩; have n0_ := Aside0.mk (Kd.R_below (by (with_reducible repeat (first | apply Kd.R_alloc | apply Kd.R_drewN | apply Kd.R_drew)); exact (Kd.R_mono (Kd.R_far (p := ⟨gb155, 1, none⟩) (Kd.R_far (p := ⟨gb155, 0, none⟩) (Kd.R_types HO154.out BK155.out (by decide)) (fun _ hk => hk.2) (.int .i64 t151)) (fun _ hk => hk.2) (.slice Ao12 t152.length co12)) (fun _ h_ => h_.1))) hb); have n1_ := Aside0.mk (blk_below (g := gb155) (o := .cells #[.int .i64 t151, .slice Ao12 t152.length co12] 27 (0, 0)) (by (with_reducible repeat (first | refine blk_drewN ?_ _ | refine blk_drew ?_ | refine blk_alloc ?_ _)); refine blk_put (cs := #[.int .i64 t151, .slice none 0 0]) ?_ 1 _ rfl; (with_reducible repeat (first | refine blk_drewN ?_ _ | refine blk_drew ?_ | refine blk_alloc ?_ _)); refine blk_put (cs := #[.int .i64 0, .slice none 0 0]) ?_ 0 _ rfl; (with_reducible repeat (first | refine blk_drewN ?_ _ | refine blk_drew ?_ | refine blk_alloc ?_ _)); exact BK155.out) hb); have n2_ := Aside0.mk (below_step (by repeat (first | (with_reducible first | exact HB.out | apply below_alloc | apply pw_below_drewN | apply below_drew1 | refine below_set ?_ GE155.out) | exact HB.out)) hb); clear HO154; clear BK155; clear HB; have HO154 := n0_; have BK155 := n1_; have HB := n2_; clear n0_ n1_ n2_; (try clear hb); (try clear hb2); (try clear hk); (try clear hi)))
 (try simp only [Act.put, List.setIfInBounds_toArray, List.set_cons_zero, List.set_cons_succ])
 go_cut [33] (fun v33 wc => ∃ (kq : Nat) (x33_6 : Bool), v33 = .bool x33_6 ∧ Aside0 (rootcellarlaw9_CellFlat.j0 kq l1 (wrap64 (1 + t150)) t156 x33_6 t151 t152 = some r) ∧ Aside0 (kq ≤ k) ∧ Aside0 (Kd.R k51 51 wc w.heap.size (fun _ => True) (.slice Ao12 t152.length co12) t152) ∧ Aside0 (wc.heap[gb155]? = some (.cells #[.int .i64 t151, (.slice Ao12 t152.length co12)] 27 (0, 0))) ∧ Aside0 (Below w.heap.size w wc))
 case first =>
  have H := HC7.out
  clear HC7
  by_cases c14 : t149 = true
  ·subst c14
   have H1 : (rootcellarlaw9_CellFlat.j0 k l1 (wrap64 (1 + t150)) t156 ((t156.size : Int) != (wrap64 (16 * (wrap64 (1 + t150))))) t151 t152) = some r := by rw [if_pos rfl] at H; exact H
   clear H
   have H := H1
   clear H1
   have H' := Aside0.mk H
   clear H
   go_wp2
   go_meet
   case rel => exact ⟨_, (((t156.size : Int) != (wrap64 (16 * (wrap64 (1 + t150)))))), (by first | rfl | (simp; done) | (simp [*]; done)), H', ⟨by first | omega | exact Nat.le_refl _⟩, ⟨by (with_reducible repeat (first | apply Kd.R_alloc | apply Kd.R_drewN | apply Kd.R_drew)); exact HO154.out⟩, ⟨by (with_reducible repeat (first | refine blk_drewN ?_ _ | refine blk_drew ?_ | refine blk_alloc ?_ _)); exact BK155.out⟩, ⟨by repeat (first | (with_reducible first | exact HB.out | apply below_alloc | apply pw_below_drewN | apply below_drew1 | refine below_set ?_ GE155.out) | exact HB.out)⟩⟩
  ·replace c14 := Bool.eq_false_iff.mpr c14
   subst c14
   have H1 : (none) = some r := by rw [if_neg (show ¬ (false = true) by decide)] at H; exact H
   clear H
   have H := H1
   clear H1
   exact absurd H (by simp)
 case rest =>
  clear HC7
  try clear c1
  try clear p2
  try clear c3
  try clear p6
  try clear c8
  try clear c9
  try clear c10
  try clear c11
  try clear c14
  try clear hcz11_0
  try clear hcz11_1
  try clear hfz11_0
  try clear hfz11_1
  obtain ⟨kq, x33_6, rfl, HA, HJ6, HO_156001, BK155, HB⟩ := hcut
  cases kq with
  | zero => exact absurd HA.out (by simp [rootcellarlaw9_CellFlat.j0])
  | succ kj6 =>
   have H := HA.out
   clear HA
   simp only [rootcellarlaw9_CellFlat.j0] at H
   by_cases c15 : x33_6 = true
   ·subst c15
    have H1 : (none) = some r := by rw [if_pos rfl] at H; exact H
    clear H
    have H := H1
    clear H1
    exact absurd H (by simp)
   ·replace c15 := Bool.eq_false_iff.mpr c15
    subst c15
    have H1 : ((cell_New.f (wrap64 (1 + t150))).bind fun bt157 => (rootcellarlaw9_CellFlat.l0 kj6 l1 (wrap64 (1 + t150)) t156 0 t151 t152 bt157.1 bt157.2.1)) = some r := by rw [if_neg (show ¬ (false = true) by decide)] at H; exact H
    clear H
    have H := H1
    clear H1
    replace H := Option.bind_eq_some_iff.mp H
    obtain ⟨⟨t157, t158, t161⟩, A160, H⟩ := H
    replace H : (rootcellarlaw9_CellFlat.l0 kj6 l1 (wrap64 (1 + t150)) t156 0 t151 t152 t157 t158) = some r := H
    have A16 := Aside0.mk A160
    clear A160
    have H' := Aside0.mk H
    clear H
    go_wp2_with (first | ((with_reducible refine gate_callee (f := 12) rfl ?_); refine goesL_ (some 36) rfl rfl Try.func12 (by kernel_rfl) rfl #[.int .i64 (wrap64 (1 + t150))] rfl (by (try simp only [List.map_toArray, List.map_cons, List.map_nil]); first | done | rfl | (simp only [List.length_drop, List.length_take]; rfl)) ?_; (with_reducible refine (cell_New.calls (wrap64 (1 + t150)) t157 t158 t161 _ A16.out).mono ?_); rintro e w17 ⟨v159, rfl, ho0, hb⟩; refine ⟨_, rfl, ?_⟩; have n0_ := Aside0.mk (Kd.R_elder' (by (with_reducible repeat (first | apply Kd.R_alloc | apply Kd.R_drewN | apply Kd.R_drew)); exact HO_156001.out) (Kd.R_base ho0) hb); have n1_ := Aside0.mk (Kd.R_lower (Kd.R_new' ho0 (Kd.R_lt (by (with_reducible repeat (first | apply Kd.R_alloc | apply Kd.R_drewN | apply Kd.R_drew)); exact HO_156001.out))) (below_size (by repeat (first | (with_reducible first | exact HB.out | apply below_alloc | apply pw_below_drewN | apply below_drew1 | refine below_set ?_ GE155.out) | exact HB.out)))); have n2_ := Aside0.mk (blk_below (g := gb155) (o := .cells #[.int .i64 t151, .slice Ao12 t152.length co12] 27 (0, 0)) (by (with_reducible repeat (first | refine blk_drewN ?_ _ | refine blk_drew ?_ | refine blk_alloc ?_ _)); exact BK155.out) hb); have n3_ := Aside0.mk (below_step (by repeat (first | (with_reducible first | exact HB.out | apply below_alloc | apply pw_below_drewN | apply below_drew1 | refine below_set ?_ GE155.out) | exact HB.out)) hb); clear HO_156001; clear BK155; clear HB; have HO_156001 := n0_; have HO160 := n1_; have BK155 := n2_; have HB := n3_; clear n0_ n1_ n2_ n3_; (try clear hb); (try clear hb2); (try clear hk); (try clear hi); (try clear ho0)) | ((with_reducible refine gate_dst (N := 9) rfl ?_); (try (refine gate_guard (by rfl) ?_; dsimp only)); refine box_event ?hg (N := 9) ?hd (cs := #[.int .i64 0, .slice none 0 0]) (t := 27) ?hr ?_; (case hd => rfl); (case hg => rfl); (case hr => first | (go_simp; done) | (go_simp; rfl)); intro gb162 hg w18 hbox hb; have n0_ := Aside0.mk (Kd.R_below (by (with_reducible repeat (first | apply Kd.R_alloc | apply Kd.R_drewN | apply Kd.R_drew)); exact HO_156001.out) hb); have n1_ := Aside0.mk (Kd.R_below (by (with_reducible repeat (first | apply Kd.R_alloc | apply Kd.R_drewN | apply Kd.R_drew)); exact HO160.out) hb); have n2_ := Aside0.mk (blk_below (g := gb155) (o := .cells #[.int .i64 t151, .slice Ao12 t152.length co12] 27 (0, 0)) (by (with_reducible repeat (first | refine blk_drewN ?_ _ | refine blk_drew ?_ | refine blk_alloc ?_ _)); exact BK155.out) hb); have n3_ := Aside0.mk (below_step (by repeat (first | (with_reducible first | exact HB.out | apply below_alloc | apply pw_below_drewN | apply below_drew1 | refine below_set ?_ GE155.out) | exact HB.out)) hb); have n4_ := Aside0.mk (hbox); have n5_ := Aside0.mk ((by rw [hg]; exact (below_size (by repeat (first | (with_reducible first | exact HB.out | apply below_alloc | apply pw_below_drewN | apply below_drew1 | refine below_set ?_ GE155.out) | exact HB.out))) : w.heap.size ≤ gb162)); have n6_ := Aside0.mk ((by rw [hg]; exact (below_size (by repeat (first | (with_reducible first | exact HB.out | apply below_alloc | apply pw_below_drewN | apply below_drew1 | refine below_set ?_ GE155.out) | exact HB.out))) : w.heap.size ≤ gb162)); have n7_ := Aside0.mk ((by rw [hg]; exact Nat.ne_of_lt (blk_lt (g := gb155) (o := .cells #[.int .i64 t151, .slice Ao12 t152.length co12] 27 (0, 0)) (by (with_reducible repeat (first | refine blk_drewN ?_ _ | refine blk_drew ?_ | refine blk_alloc ?_ _)); exact BK155.out)) : gb155 ≠ gb162)); have n8_ := Aside0.mk ((by rw [hg]; exact Nat.ne_of_gt (blk_lt (g := gb155) (o := .cells #[.int .i64 t151, .slice Ao12 t152.length co12] 27 (0, 0)) (by (with_reducible repeat (first | refine blk_drewN ?_ _ | refine blk_drew ?_ | refine blk_alloc ?_ _)); exact BK155.out)) : gb162 ≠ gb155)); clear HO_156001; clear HO160; clear BK155; clear HB; have HO_156001 := n0_; have HO160 := n1_; have BK155 := n2_; have HB := n3_; have BK162 := n4_; have GW162 := n5_; have GE162 := n6_; have NB155_162 := n7_; have NB162_155 := n8_; clear n0_ n1_ n2_ n3_ n4_ n5_ n6_ n7_ n8_; clear hb hbox hg; have hnb19 := NB162_155.out; have hnc19 := NB155_162.out; have hcz20_0 : w18.cell? ⟨gb162, 0, none⟩ = some (.int .i64 0) := (blk_cell BK162.out 0).trans rfl; have hcz20_1 : w18.cell? ⟨gb162, 1, none⟩ = some (.slice none 0 0) := (blk_cell BK162.out 1).trans rfl; have hfz20_0 := blk_frozen BK162.out 0; have hfz20_1 := blk_frozen BK162.out 1; obtain ⟨Ao21, co21, eo21⟩ := Kd.R_slice HO160.out; subst eo21))
    go_loopg [11] kj6 (fun kq v11 w' => ∃ (x11_2 : Int) (x163000_2 : Int) (x163001_2 : List (S51)) (u163001 : Value), v11 = .int .i64 x11_2 ∧ Aside0 (rootcellarlaw9_CellFlat.l0 kq l1 (wrap64 (1 + t150)) t156 x11_2 t151 t152 x163000_2 x163001_2 = some r) ∧ Aside0 (kq ≤ kj6) ∧ Aside0 (Kd.R k51 51 w' w.heap.size (fun k_ => some k_ ≠ (u163001 : Value).ownBlock) (.slice Ao12 t152.length co12) t152) ∧ Aside0 (Kd.R k51 51 w' w.heap.size (fun k_ => some k_ ≠ ((.slice Ao12 t152.length co12) : Value).ownBlock) u163001 x163001_2) ∧ Aside0 (w'.heap[gb155]? = some (.cells #[.int .i64 t151, (.slice Ao12 t152.length co12)] 27 (0, 0))) ∧ Aside0 (w'.heap[gb162]? = some (.cells #[.int .i64 x163000_2, u163001] 27 (0, 0))) ∧ Aside0 (Below w.heap.size w w'))
    case atStart => exact ⟨(0), (t157), (t158), (.slice Ao21 t158.length co21), (by first | rfl | (simp; done) | (simp [*]; done)), H', ⟨Nat.le_refl _⟩, ⟨by (with_reducible repeat (first | apply Kd.R_alloc | apply Kd.R_drewN | apply Kd.R_drew)); exact Kd.R_mono (Kd.R_far (p := ⟨gb162, 1, none⟩) (Kd.R_far (p := ⟨gb162, 0, none⟩) (Kd.R_types HO_156001.out BK162.out (by decide)) (fun _ hk => hk.2) (.int .i64 t157)) (fun _ hk => hk.2) (.slice Ao21 t158.length co21)) (fun _ hk => hk.1.2)⟩, ⟨by (with_reducible repeat (first | apply Kd.R_alloc | apply Kd.R_drewN | apply Kd.R_drew)); exact Kd.R_mono (Kd.R_far (p := ⟨gb162, 1, none⟩) (Kd.R_far (p := ⟨gb162, 0, none⟩) (Kd.R_types HO160.out BK162.out (by decide)) (fun _ hk => hk.2) (.int .i64 t157)) (fun _ hk => hk.2) (.slice Ao21 t158.length co21)) (fun _ hk => hk.1.2)⟩, ⟨by (with_reducible repeat (first | refine blk_drewN ?_ _ | refine blk_drew ?_ | refine blk_alloc ?_ _)); refine blk_far ?_ NB155_162.out _; (with_reducible repeat (first | refine blk_drewN ?_ _ | refine blk_drew ?_ | refine blk_alloc ?_ _)); refine blk_far ?_ NB155_162.out _; (with_reducible repeat (first | refine blk_drewN ?_ _ | refine blk_drew ?_ | refine blk_alloc ?_ _)); exact BK155.out⟩, ⟨by (with_reducible repeat (first | refine blk_drewN ?_ _ | refine blk_drew ?_ | refine blk_alloc ?_ _)); refine blk_put (cs := #[.int .i64 t157, .slice none 0 0]) ?_ 1 _ rfl; (with_reducible repeat (first | refine blk_drewN ?_ _ | refine blk_drew ?_ | refine blk_alloc ?_ _)); refine blk_put (cs := #[.int .i64 0, .slice none 0 0]) ?_ 0 _ rfl; (with_reducible repeat (first | refine blk_drewN ?_ _ | refine blk_drew ?_ | refine blk_alloc ?_ _)); exact BK162.out⟩, ⟨by repeat (first | (with_reducible first | exact HB.out | apply below_alloc | apply pw_below_drewN | apply below_drew1 | refine below_set ?_ GE155.out | refine below_set ?_ GE162.out) | exact HB.out)⟩⟩
    case round =>
     clear H'
     try clear c1
     try clear p2
     try clear c3
     try clear p6
     try clear c8
     try clear c9
     try clear c10
     try clear c11
     try clear c12
     try clear c14
     try clear c15
     try clear c19
     try clear hcz11_0
     try clear hcz11_1
     try clear hcz20_0
     try clear hcz20_1
     try clear hfz11_0
     try clear hfz11_1
     try clear hfz20_0
     try clear hfz20_1
     try clear p2
     try clear p6
     obtain ⟨x11_2, x163000_2, x163001_2, u163001, rfl, HA, HK2, HO_156001, HO_163001, BK155, BK162, HB⟩ := hrel
     cases gk with
     | zero => exact absurd HA.out (by simp [rootcellarlaw9_CellFlat.l0])
     | succ k2 =>
      have H := HA.out
      clear HA
      simp only [rootcellarlaw9_CellFlat.l0] at H
      by_cases c22 : x11_2 < (wrap64 (1 + t150))
      ·rw [if_pos c22] at H
       have c22b0 : decide (x11_2 < (wrap64 (1 + t150))) = true := decide_eq_true c22
       clear c22
       replace H := Option.bind_eq_some_iff.mp H
       obtain ⟨⟨t164, t165⟩, A230, H⟩ := H
       replace H : (if t165 = true then (rootcellarlaw9_CellFlat.j2 k2 l1 (wrap64 (1 + t150)) t156 x11_2 t164 t165 t151 t152 x163000_2 x163001_2) else ((rootcellarlaw9_cluster.f k2 0).bind fun t166 => (rootcellarlaw9_CellFlat.j2 k2 l1 (wrap64 (1 + t150)) t156 x11_2 t166 t165 t151 t152 x163000_2 x163001_2))) = some r := H
       have A23 := Aside0.mk A230
       clear A230
       have HC24 := Aside0.mk H
       clear H
       have hnb25 := NB155_162.out
       have hnc25 := NB162_155.out
       have hcz26_0 : wr.cell? ⟨gb155, 0, none⟩ = some (.int .i64 t151) := (blk_cell BK155.out 0).trans rfl
       have hcz26_1 : wr.cell? ⟨gb155, 1, none⟩ = some (.slice Ao12 t152.length co12) := (blk_cell BK155.out 1).trans rfl
       have hfz26_0 := blk_frozen BK155.out 0
       have hfz26_1 := blk_frozen BK155.out 1
       go_upto_if 51 with (first | ((with_reducible refine gate_callee (f := 13) rfl ?_); refine goesL_ (some 47) rfl rfl Try.func13 (by kernel_rfl) rfl #[.agg #[.int .i64 t151, .slice Ao12 t152.length co12], .int .i64 x11_2] rfl (by (try simp only [List.map_toArray, List.map_cons, List.map_nil]); first | done | rfl | (simp only [List.length_drop, List.length_take]; rfl)) ?_; (with_reducible refine (cell_Get.calls t151 _ _ t152 x11_2 t164 t165 _ ?side1 ?side2 A23.out).mono ?_); (case side1 => repeat (first | exact (Kd.R_reads' HO_156001.out).2.2 | (with_reducible refine Kd.C_alloc ?_ _) | (with_reducible refine Kd.C_drewN ?_ _) | (with_reducible refine Kd.C_drew ?_))); (case side2 => exact (Kd.R_reads' HO_156001.out).2.1); rintro e w27 ⟨rfl, hb⟩; refine ⟨_, rfl, ?_⟩; have n0_ := Aside0.mk (Kd.R_below (by (with_reducible repeat (first | apply Kd.R_alloc | apply Kd.R_drewN | apply Kd.R_drew)); exact HO_156001.out) hb); have n1_ := Aside0.mk (Kd.R_below (by (with_reducible repeat (first | apply Kd.R_alloc | apply Kd.R_drewN | apply Kd.R_drew)); exact HO_163001.out) hb); have n2_ := Aside0.mk (blk_below (g := gb155) (o := .cells #[.int .i64 t151, .slice Ao12 t152.length co12] 27 (0, 0)) (by (with_reducible repeat (first | refine blk_drewN ?_ _ | refine blk_drew ?_ | refine blk_alloc ?_ _)); exact BK155.out) hb); have n3_ := Aside0.mk (blk_below (g := gb162) (o := .cells #[.int .i64 x163000_2, u163001] 27 (0, 0)) (by (with_reducible repeat (first | refine blk_drewN ?_ _ | refine blk_drew ?_ | refine blk_alloc ?_ _)); exact BK162.out) hb); have n4_ := Aside0.mk (below_step (by repeat (first | (with_reducible first | exact HB.out | apply below_alloc | apply pw_below_drewN | apply below_drew1 | refine below_set ?_ GE155.out | refine below_set ?_ GE162.out) | exact HB.out)) hb); clear HO_156001; clear HO_163001; clear BK155; clear BK162; clear HB; have HO_156001 := n0_; have HO_163001 := n1_; have BK155 := n2_; have BK162 := n3_; have HB := n4_; clear n0_ n1_ n2_ n3_ n4_; (try clear hb); (try clear hb2); (try clear hk); (try clear hi)))
       (try simp only [Act.put, List.setIfInBounds_toArray, List.set_cons_zero, List.set_cons_succ])
       go_cut [12] (fun v12 wc => ∃ (kq : Nat) (x12_23 : ByteArray), v12 = .string x12_23 ∧ Aside0 (rootcellarlaw9_CellFlat.j2 kq l1 (wrap64 (1 + t150)) t156 x11_2 x12_23 t165 t151 t152 x163000_2 x163001_2 = some r) ∧ Aside0 (kq ≤ k2) ∧ Aside0 (Kd.R k51 51 wc w.heap.size (fun k_ => some k_ ≠ (u163001 : Value).ownBlock) (.slice Ao12 t152.length co12) t152) ∧ Aside0 (Kd.R k51 51 wc w.heap.size (fun k_ => some k_ ≠ ((.slice Ao12 t152.length co12) : Value).ownBlock) u163001 x163001_2) ∧ Aside0 (wc.heap[gb155]? = some (.cells #[.int .i64 t151, (.slice Ao12 t152.length co12)] 27 (0, 0))) ∧ Aside0 (wc.heap[gb162]? = some (.cells #[.int .i64 x163000_2, u163001] 27 (0, 0))) ∧ Aside0 (Below w.heap.size w wc))
       case first =>
        have H := HC24.out
        clear HC24
        by_cases c28 : t165 = true
        ·subst c28
         have H1 : (rootcellarlaw9_CellFlat.j2 k2 l1 (wrap64 (1 + t150)) t156 x11_2 t164 true t151 t152 x163000_2 x163001_2) = some r := by rw [if_pos rfl] at H; exact H
         clear H
         have H := H1
         clear H1
         have H' := Aside0.mk H
         clear H
         go_wp2
         go_meet
         case rel => exact ⟨_, (t164), (by first | rfl | (simp; done) | (simp [*]; done)), H', ⟨by have := HJ6.out; have := HK2.out; first | omega | exact Nat.le_refl _⟩, ⟨by (with_reducible repeat (first | apply Kd.R_alloc | apply Kd.R_drewN | apply Kd.R_drew)); exact HO_156001.out⟩, ⟨by (with_reducible repeat (first | apply Kd.R_alloc | apply Kd.R_drewN | apply Kd.R_drew)); exact HO_163001.out⟩, ⟨by (with_reducible repeat (first | refine blk_drewN ?_ _ | refine blk_drew ?_ | refine blk_alloc ?_ _)); exact BK155.out⟩, ⟨by (with_reducible repeat (first | refine blk_drewN ?_ _ | refine blk_drew ?_ | refine blk_alloc ?_ _)); exact BK162.out⟩, ⟨by repeat (first | (with_reducible first | exact HB.out | apply below_alloc | apply pw_below_drewN | apply below_drew1 | refine below_set ?_ GE155.out | refine below_set ?_ GE162.out) | exact HB.out)⟩⟩
        ·replace c28 := Bool.eq_false_iff.mpr c28
         subst c28
         have H1 : ((rootcellarlaw9_cluster.f k2 0).bind fun t166 => (rootcellarlaw9_CellFlat.j2 k2 l1 (wrap64 (1 + t150)) t156 x11_2 t166 false t151 t152 x163000_2 x163001_2)) = some r := by rw [if_neg (show ¬ (false = true) by decide)] at H; exact H
         clear H
         have H := H1
         clear H1
         replace H := Option.bind_eq_some_iff.mp H
         obtain ⟨t166, A290, H⟩ := H
         replace H : (rootcellarlaw9_CellFlat.j2 k2 l1 (wrap64 (1 + t150)) t156 x11_2 t166 false t151 t152 x163000_2 x163001_2) = some r := H
         have A29 := Aside0.mk A290
         clear A290
         have H' := Aside0.mk H
         clear H
         go_wp2_with (first | ((with_reducible refine gate_callee (f := 14) rfl ?_); refine goesL_ (some 52) rfl rfl Try.func14 (by kernel_rfl) rfl #[.int .i64 0] rfl (by (try simp only [List.map_toArray, List.map_cons, List.map_nil]); first | done | rfl | (simp only [List.length_drop, List.length_take]; rfl)) ?_; (with_reducible refine (rootcellarlaw9_cluster.calls k2 0 t166 _ A29.out).mono ?_); rintro e w30 ⟨rfl, hb⟩; refine ⟨_, rfl, ?_⟩; have n0_ := Aside0.mk (Kd.R_below (by (with_reducible repeat (first | apply Kd.R_alloc | apply Kd.R_drewN | apply Kd.R_drew)); exact HO_156001.out) hb); have n1_ := Aside0.mk (Kd.R_below (by (with_reducible repeat (first | apply Kd.R_alloc | apply Kd.R_drewN | apply Kd.R_drew)); exact HO_163001.out) hb); have n2_ := Aside0.mk (blk_below (g := gb155) (o := .cells #[.int .i64 t151, .slice Ao12 t152.length co12] 27 (0, 0)) (by (with_reducible repeat (first | refine blk_drewN ?_ _ | refine blk_drew ?_ | refine blk_alloc ?_ _)); exact BK155.out) hb); have n3_ := Aside0.mk (blk_below (g := gb162) (o := .cells #[.int .i64 x163000_2, u163001] 27 (0, 0)) (by (with_reducible repeat (first | refine blk_drewN ?_ _ | refine blk_drew ?_ | refine blk_alloc ?_ _)); exact BK162.out) hb); have n4_ := Aside0.mk (below_step (by repeat (first | (with_reducible first | exact HB.out | apply below_alloc | apply pw_below_drewN | apply below_drew1 | refine below_set ?_ GE155.out | refine below_set ?_ GE162.out) | exact HB.out)) hb); clear HO_156001; clear HO_163001; clear BK155; clear BK162; clear HB; have HO_156001 := n0_; have HO_163001 := n1_; have BK155 := n2_; have BK162 := n3_; have HB := n4_; clear n0_ n1_ n2_ n3_ n4_; (try clear hb); (try clear hb2); (try clear hk); (try clear hi)))
         go_meet
         case rel => exact ⟨_, (t166), (by first | rfl | (simp; done) | (simp [*]; done)), H', ⟨by have := HJ6.out; have := HK2.out; first | omega | exact Nat.le_refl _⟩, ⟨by (with_reducible repeat (first | apply Kd.R_alloc | apply Kd.R_drewN | apply Kd.R_drew)); exact HO_156001.out⟩, ⟨by (with_reducible repeat (first | apply Kd.R_alloc | apply Kd.R_drewN | apply Kd.R_drew)); exact HO_163001.out⟩, ⟨by (with_reducible repeat (first | refine blk_drewN ?_ _ | refine blk_drew ?_ | refine blk_alloc ?_ _)); exact BK155.out⟩, ⟨by (with_reducible repeat (first | refine blk_drewN ?_ _ | refine blk_drew ?_ | refine blk_alloc ?_ _)); exact BK162.out⟩, ⟨by repeat (first | (with_reducible first | exact HB.out | apply below_alloc | apply pw_below_drewN | apply below_drew1 | refine below_set ?_ GE155.out | refine below_set ?_ GE162.out) | exact HB.out)⟩⟩
       case rest =>
        clear HC24
        try clear c1
        try clear c2
        try clear p2
        try clear c3
        try clear p6
        try clear c8
        try clear c9
        try clear c10
        try clear c11
        try clear c12
        try clear c13
        try clear c14
        try clear c15
        try clear c19
        try clear c22
        try clear c22b0
        try clear c25
        try clear c28
        try clear hcz11_0
        try clear hcz11_1
        try clear hcz20_0
        try clear hcz20_1
        try clear hcz26_0
        try clear hcz26_1
        try clear hfz11_0
        try clear hfz11_1
        try clear hfz20_0
        try clear hfz20_1
        try clear hfz26_0
        try clear hfz26_1
        try clear p2
        try clear p6
        obtain ⟨kq, x12_23, rfl, HA, HJ23, HO_156001, HO_163001, BK155, BK162, HB⟩ := hcut
        cases kq with
        | zero => exact absurd HA.out (by simp [rootcellarlaw9_CellFlat.j2])
        | succ kj23 =>
         have H := HA.out
         clear HA
         simp only [rootcellarlaw9_CellFlat.j2] at H
         have H' := Aside0.mk H
         clear H
         go_wp2
         go_loopg [14, 15] kj23 (fun kq v14 v15 w' => ∃ (x14_4 : ByteArray) (x15_4 : Int), v14 = .string x14_4 ∧ v15 = .int .i64 x15_4 ∧ Aside0 (rootcellarlaw9_CellFlat.l1 kq l1 (wrap64 (1 + t150)) t156 x11_2 x12_23 t165 x14_4 x15_4 t151 t152 x163000_2 x163001_2 = some r) ∧ Aside0 (kq ≤ kj23) ∧ Aside0 (Kd.R k51 51 w' w.heap.size (fun k_ => some k_ ≠ (u163001 : Value).ownBlock) (.slice Ao12 t152.length co12) t152) ∧ Aside0 (Kd.R k51 51 w' w.heap.size (fun k_ => some k_ ≠ ((.slice Ao12 t152.length co12) : Value).ownBlock) u163001 x163001_2) ∧ Aside0 (w'.heap[gb155]? = some (.cells #[.int .i64 t151, (.slice Ao12 t152.length co12)] 27 (0, 0))) ∧ Aside0 (w'.heap[gb162]? = some (.cells #[.int .i64 x163000_2, u163001] 27 (0, 0))) ∧ Aside0 (Below w.heap.size w w'))
         case atStart => exact ⟨((⟨#[]⟩ : ByteArray)), (0), (by first | rfl | (simp; done) | (simp [*]; done)), (by first | rfl | (simp; done) | (simp [*]; done)), H', ⟨Nat.le_refl _⟩, ⟨by (with_reducible repeat (first | apply Kd.R_alloc | apply Kd.R_drewN | apply Kd.R_drew)); exact HO_156001.out⟩, ⟨by (with_reducible repeat (first | apply Kd.R_alloc | apply Kd.R_drewN | apply Kd.R_drew)); exact HO_163001.out⟩, ⟨by (with_reducible repeat (first | refine blk_drewN ?_ _ | refine blk_drew ?_ | refine blk_alloc ?_ _)); exact BK155.out⟩, ⟨by (with_reducible repeat (first | refine blk_drewN ?_ _ | refine blk_drew ?_ | refine blk_alloc ?_ _)); exact BK162.out⟩, ⟨by repeat (first | (with_reducible first | exact HB.out | apply below_alloc | apply pw_below_drewN | apply below_drew1 | refine below_set ?_ GE155.out | refine below_set ?_ GE162.out) | exact HB.out)⟩⟩
         case round =>
          clear H'
          try clear c1
          try clear c2
          try clear p2
          try clear c3
          try clear p6
          try clear c8
          try clear c9
          try clear c10
          try clear c11
          try clear c12
          try clear c13
          try clear c14
          try clear c15
          try clear c19
          try clear c22
          try clear c22b0
          try clear c25
          try clear c28
          try clear hcz11_0
          try clear hcz11_1
          try clear hcz20_0
          try clear hcz20_1
          try clear hcz26_0
          try clear hcz26_1
          try clear hfz11_0
          try clear hfz11_1
          try clear hfz20_0
          try clear hfz20_1
          try clear hfz26_0
          try clear hfz26_1
          try clear p2
          try clear p6
          obtain ⟨x14_4, x15_4, rfl, rfl, HA, HK4, HO_156001, HO_163001, BK155, BK162, HB⟩ := hrel
          cases gk with
          | zero => exact absurd HA.out (by simp [rootcellarlaw9_CellFlat.l1])
          | succ k4 =>
           have H := HA.out
           clear HA
           simp only [rootcellarlaw9_CellFlat.l1] at H
           have HC31 := Aside0.mk H
           clear H
           go_upto_region 16 with (fail)
           go_cut [60] (fun v60 wc => ∃ (kq : Nat) (x60_30 : Bool), v60 = .bool x60_30 ∧ Aside0 (rootcellarlaw9_CellFlat.j4 kq l1 (wrap64 (1 + t150)) t156 x11_2 x12_23 t165 x14_4 x15_4 x60_30 t151 t152 x163000_2 x163001_2 = some r) ∧ Aside0 (kq ≤ k4) ∧ Aside0 (Kd.R k51 51 wc w.heap.size (fun k_ => some k_ ≠ (u163001 : Value).ownBlock) (.slice Ao12 t152.length co12) t152) ∧ Aside0 (Kd.R k51 51 wc w.heap.size (fun k_ => some k_ ≠ ((.slice Ao12 t152.length co12) : Value).ownBlock) u163001 x163001_2) ∧ Aside0 (wc.heap[gb155]? = some (.cells #[.int .i64 t151, (.slice Ao12 t152.length co12)] 27 (0, 0))) ∧ Aside0 (wc.heap[gb162]? = some (.cells #[.int .i64 x163000_2, u163001] 27 (0, 0))) ∧ Aside0 (Below w.heap.size w wc))
           case first =>
            have H := HC31.out
            clear HC31
            by_cases c32 : x15_4 < (l1.length : Int)
            ·rw [if_pos c32] at H
             have c32b0 : decide (x15_4 < (l1.length : Int)) = true := decide_eq_true c32
             clear c32
             (first | rw [c32b0] | (simp only [i64_w, i32_w]; rw [c32b0]) | skip)
             have H' := Aside0.mk H
             clear H
             go_wp2
             go_meet
             case rel => exact ⟨_, (decide (x15_4 < 80)), (by first | rfl | (simp; done) | (simp [*]; done)), H', ⟨by have := HJ6.out; have := HK2.out; have := HJ23.out; have := HK4.out; first | omega | exact Nat.le_refl _⟩, ⟨by (with_reducible repeat (first | apply Kd.R_alloc | apply Kd.R_drewN | apply Kd.R_drew)); exact HO_156001.out⟩, ⟨by (with_reducible repeat (first | apply Kd.R_alloc | apply Kd.R_drewN | apply Kd.R_drew)); exact HO_163001.out⟩, ⟨by (with_reducible repeat (first | refine blk_drewN ?_ _ | refine blk_drew ?_ | refine blk_alloc ?_ _)); exact BK155.out⟩, ⟨by (with_reducible repeat (first | refine blk_drewN ?_ _ | refine blk_drew ?_ | refine blk_alloc ?_ _)); exact BK162.out⟩, ⟨by repeat (first | (with_reducible first | exact HB.out | apply below_alloc | apply pw_below_drewN | apply below_drew1 | refine below_set ?_ GE155.out | refine below_set ?_ GE162.out) | exact HB.out)⟩⟩
            ·rw [if_neg c32] at H
             have c32b0 : decide (x15_4 < (l1.length : Int)) = false := decide_eq_false c32
             clear c32
             (first | rw [c32b0] | (simp only [i64_w, i32_w]; rw [c32b0]) | skip)
             have H' := Aside0.mk H
             clear H
             go_wp2
             go_meet
             case rel => exact ⟨_, (false), (by first | rfl | (simp; done) | (simp [*]; done)), H', ⟨by have := HJ6.out; have := HK2.out; have := HJ23.out; have := HK4.out; first | omega | exact Nat.le_refl _⟩, ⟨by (with_reducible repeat (first | apply Kd.R_alloc | apply Kd.R_drewN | apply Kd.R_drew)); exact HO_156001.out⟩, ⟨by (with_reducible repeat (first | apply Kd.R_alloc | apply Kd.R_drewN | apply Kd.R_drew)); exact HO_163001.out⟩, ⟨by (with_reducible repeat (first | refine blk_drewN ?_ _ | refine blk_drew ?_ | refine blk_alloc ?_ _)); exact BK155.out⟩, ⟨by (with_reducible repeat (first | refine blk_drewN ?_ _ | refine blk_drew ?_ | refine blk_alloc ?_ _)); exact BK162.out⟩, ⟨by repeat (first | (with_reducible first | exact HB.out | apply below_alloc | apply pw_below_drewN | apply below_drew1 | refine below_set ?_ GE155.out | refine below_set ?_ GE162.out) | exact HB.out)⟩⟩
           case rest =>
            clear HC31
            try clear c1
            try clear c2
            try clear p2
            try clear c3
            try clear p6
            try clear c8
            try clear c9
            try clear c10
            try clear c11
            try clear c12
            try clear c13
            try clear c14
            try clear c15
            try clear c19
            try clear c22
            try clear c22b0
            try clear c25
            try clear c28
            try clear c32
            try clear c32b0
            try clear hcz11_0
            try clear hcz11_1
            try clear hcz20_0
            try clear hcz20_1
            try clear hcz26_0
            try clear hcz26_1
            try clear hfz11_0
            try clear hfz11_1
            try clear hfz20_0
            try clear hfz20_1
            try clear hfz26_0
            try clear hfz26_1
            try clear p2
            try clear p6
            obtain ⟨kq, x60_30, rfl, HA, HJ30, HO_156001, HO_163001, BK155, BK162, HB⟩ := hcut
            cases kq with
            | zero => exact absurd HA.out (by simp [rootcellarlaw9_CellFlat.j4])
            | succ kj30 =>
             have H := HA.out
             clear HA
             simp only [rootcellarlaw9_CellFlat.j4] at H
             by_cases c33 : x60_30 = true
             ·subst c33
              have H1 : (if 0 ≤ x15_4 then (if x15_4 < (l1.length : Int) then ((rootcellarlaw9_pick.f (rd l1 x15_4) (wrap64 (1 + t150))).bind fun t178 => (if t178 = x11_2 then ((rootcellarlaw9_cluster.f kj30 (rd l1 x15_4)).bind fun t180 => (rootcellarlaw9_CellFlat.l1 kj30 l1 (wrap64 (1 + t150)) t156 x11_2 x12_23 t165 t180 (wrap64 (x15_4 + 1)) t151 t152 x163000_2 x163001_2)) else (rootcellarlaw9_CellFlat.l1 kj30 l1 (wrap64 (1 + t150)) t156 x11_2 x12_23 t165 x14_4 (wrap64 (x15_4 + 1)) t151 t152 x163000_2 x163001_2))) else (none)) else (none)) = some r := by rw [if_pos rfl] at H; exact H
              clear H
              have H := H1
              clear H1
              by_cases c34 : 0 ≤ x15_4
              ·rw [if_pos c34] at H
               have c34b0 : decide (0 ≤ x15_4) = true := decide_eq_true c34
               clear c34
               by_cases c35 : x15_4 < (l1.length : Int)
               ·rw [if_pos c35] at H
                have c35b0 : decide (x15_4 < (l1.length : Int)) = true := decide_eq_true c35
                clear c35
                replace H := Option.bind_eq_some_iff.mp H
                obtain ⟨t178, A360, H⟩ := H
                replace H : (if t178 = x11_2 then ((rootcellarlaw9_cluster.f kj30 (rd l1 x15_4)).bind fun t180 => (rootcellarlaw9_CellFlat.l1 kj30 l1 (wrap64 (1 + t150)) t156 x11_2 x12_23 t165 t180 (wrap64 (x15_4 + 1)) t151 t152 x163000_2 x163001_2)) else (rootcellarlaw9_CellFlat.l1 kj30 l1 (wrap64 (1 + t150)) t156 x11_2 x12_23 t165 x14_4 (wrap64 (x15_4 + 1)) t151 t152 x163000_2 x163001_2)) = some r := H
                have A36 := Aside0.mk A360
                clear A360
                by_cases c37 : t178 = x11_2
                ·rw [if_pos c37] at H
                 have c37b0 : (t178 == x11_2) = true := beq_iff_eq.mpr c37
                 have c37b1 : (t178 != x11_2) = false := bne_eq_false_iff_eq.mpr c37
                 clear c37
                 replace H := Option.bind_eq_some_iff.mp H
                 obtain ⟨t180, A380, H⟩ := H
                 replace H : (rootcellarlaw9_CellFlat.l1 kj30 l1 (wrap64 (1 + t150)) t156 x11_2 x12_23 t165 t180 (wrap64 (x15_4 + 1)) t151 t152 x163000_2 x163001_2) = some r := H
                 have A38 := Aside0.mk A380
                 clear A380
                 have H' := Aside0.mk H
                 clear H
                 have p177 : 0 ≤ (x15_4 : Int) := of_decide_eq_true (by first | (with_reducible assumption) | assumption)
                 have q177 : x15_4 < (l1.length : Int) := of_decide_eq_true (by first | (with_reducible assumption) | assumption)
                 obtain ⟨ad177, e177, hx177_0⟩ := Kd.at_int HR1.out x15_4 p177 q177
                 cases e177
                 replace hx177_0 := (HB.out.cell (World.block_lt_of_cell? w _ hx177_0)).trans hx177_0
                 replace p177 := eq_true p177
                 replace q177 := eq_true q177
                 go_wp2_with (first | ((with_reducible refine gate_callee (f := 9) rfl ?_); refine goesL_ (some 68) rfl rfl Try.func9 (by kernel_rfl) rfl #[.int .i64 (rd l1 x15_4), .int .i64 (wrap64 (1 + t150))] rfl (by (try simp only [List.map_toArray, List.map_cons, List.map_nil]); first | done | rfl | (simp only [List.length_drop, List.length_take]; rfl)) ?_; (with_reducible refine (rootcellarlaw9_pick.calls (rd l1 x15_4) (wrap64 (1 + t150)) t178 _ A36.out).mono ?_); rintro e w' ⟨rfl, ⟨nd, rfl⟩⟩; refine ⟨_, rfl, ?_⟩; have p179 : 0 ≤ (x15_4 : Int) := of_decide_eq_true (by first | (with_reducible assumption) | assumption); have q179 : x15_4 < (l1.length : Int) := of_decide_eq_true (by first | (with_reducible assumption) | assumption); obtain ⟨ad179, e179, hx179_0⟩ := Kd.at_int HR1.out x15_4 p179 q179; obtain rfl : ad177 = ad179 := (by injection e179); replace hx179_0 := (HB.out.cell (World.block_lt_of_cell? w _ hx179_0)).trans hx179_0; replace p179 := eq_true p179; replace q179 := eq_true q179) | ((with_reducible refine gate_callee (f := 14) rfl ?_); refine goesL_ (some 75) rfl rfl Try.func14 (by kernel_rfl) rfl #[.int .i64 (rd l1 x15_4)] rfl (by (try simp only [List.map_toArray, List.map_cons, List.map_nil]); first | done | rfl | (simp only [List.length_drop, List.length_take]; rfl)) ?_; (with_reducible refine (rootcellarlaw9_cluster.calls kj30 (rd l1 x15_4) t180 _ A38.out).mono ?_); rintro e w39 ⟨rfl, hb⟩; refine ⟨_, rfl, ?_⟩; have n0_ := Aside0.mk (Kd.R_below (by (with_reducible repeat (first | apply Kd.R_alloc | apply Kd.R_drewN | apply Kd.R_drew)); exact HO_156001.out) hb); have n1_ := Aside0.mk (Kd.R_below (by (with_reducible repeat (first | apply Kd.R_alloc | apply Kd.R_drewN | apply Kd.R_drew)); exact HO_163001.out) hb); have n2_ := Aside0.mk (blk_below (g := gb155) (o := .cells #[.int .i64 t151, .slice Ao12 t152.length co12] 27 (0, 0)) (by (with_reducible repeat (first | refine blk_drewN ?_ _ | refine blk_drew ?_ | refine blk_alloc ?_ _)); exact BK155.out) hb); have n3_ := Aside0.mk (blk_below (g := gb162) (o := .cells #[.int .i64 x163000_2, u163001] 27 (0, 0)) (by (with_reducible repeat (first | refine blk_drewN ?_ _ | refine blk_drew ?_ | refine blk_alloc ?_ _)); exact BK162.out) hb); have n4_ := Aside0.mk (below_step (by repeat (first | (with_reducible first | exact HB.out | apply below_alloc | apply pw_below_drewN | apply below_drew1 | refine below_set ?_ GE155.out | refine below_set ?_ GE162.out) | exact HB.out)) hb); clear HO_156001; clear HO_163001; clear BK155; clear BK162; clear HB; have HO_156001 := n0_; have HO_163001 := n1_; have BK155 := n2_; have BK162 := n3_; have HB := n4_; clear n0_ n1_ n2_ n3_ n4_; (try clear hb); (try clear hb2); (try clear hk); (try clear hi)))
                 go_roundg kj30
                 case measure => have := HJ6.out; have := HK2.out; have := HJ23.out; have := HK4.out; have := HJ30.out; omega
                 case rel => exact ⟨(t180), (wrap64 (x15_4 + 1)), (by first | rfl | (simp; done) | (simp [*]; done)), (by first | rfl | (simp; done) | (simp [*]; done)), H', ⟨by have := HJ6.out; have := HK2.out; have := HJ23.out; have := HK4.out; have := HJ30.out; omega⟩, ⟨by (with_reducible repeat (first | apply Kd.R_alloc | apply Kd.R_drewN | apply Kd.R_drew)); exact HO_156001.out⟩, ⟨by (with_reducible repeat (first | apply Kd.R_alloc | apply Kd.R_drewN | apply Kd.R_drew)); exact HO_163001.out⟩, ⟨by (with_reducible repeat (first | refine blk_drewN ?_ _ | refine blk_drew ?_ | refine blk_alloc ?_ _)); exact BK155.out⟩, ⟨by (with_reducible repeat (first | refine blk_drewN ?_ _ | refine blk_drew ?_ | refine blk_alloc ?_ _)); exact BK162.out⟩, ⟨by repeat (first | (with_reducible first | exact HB.out | apply below_alloc | apply pw_below_drewN | apply below_drew1 | refine below_set ?_ GE155.out | refine below_set ?_ GE162.out) | exact HB.out)⟩⟩
                ·rw [if_neg c37] at H
                 have c37b0 : (t178 == x11_2) = false := beq_eq_false_iff_ne.mpr c37
                 have c37b1 : (t178 != x11_2) = true := bne_iff_ne.mpr c37
                 have H' := Aside0.mk H
                 clear H
                 have p177 : 0 ≤ (x15_4 : Int) := of_decide_eq_true (by first | (with_reducible assumption) | assumption)
                 have q177 : x15_4 < (l1.length : Int) := of_decide_eq_true (by first | (with_reducible assumption) | assumption)
                 obtain ⟨ad177, e177, hx177_0⟩ := Kd.at_int HR1.out x15_4 p177 q177
                 cases e177
                 replace hx177_0 := (HB.out.cell (World.block_lt_of_cell? w _ hx177_0)).trans hx177_0
                 replace p177 := eq_true p177
                 replace q177 := eq_true q177
                 go_wp2_with (first | ((with_reducible refine gate_callee (f := 9) rfl ?_); refine goesL_ (some 68) rfl rfl Try.func9 (by kernel_rfl) rfl #[.int .i64 (rd l1 x15_4), .int .i64 (wrap64 (1 + t150))] rfl (by (try simp only [List.map_toArray, List.map_cons, List.map_nil]); first | done | rfl | (simp only [List.length_drop, List.length_take]; rfl)) ?_; (with_reducible refine (rootcellarlaw9_pick.calls (rd l1 x15_4) (wrap64 (1 + t150)) t178 _ A36.out).mono ?_); rintro e w' ⟨rfl, ⟨nd, rfl⟩⟩; refine ⟨_, rfl, ?_⟩))
                 go_roundg kj30
                 case measure => have := HJ6.out; have := HK2.out; have := HJ23.out; have := HK4.out; have := HJ30.out; omega
                 case rel => exact ⟨(x14_4), (wrap64 (x15_4 + 1)), (by first | rfl | (simp; done) | (simp [*]; done)), (by first | rfl | (simp; done) | (simp [*]; done)), H', ⟨by have := HJ6.out; have := HK2.out; have := HJ23.out; have := HK4.out; have := HJ30.out; omega⟩, ⟨by (with_reducible repeat (first | apply Kd.R_alloc | apply Kd.R_drewN | apply Kd.R_drew)); exact HO_156001.out⟩, ⟨by (with_reducible repeat (first | apply Kd.R_alloc | apply Kd.R_drewN | apply Kd.R_drew)); exact HO_163001.out⟩, ⟨by (with_reducible repeat (first | refine blk_drewN ?_ _ | refine blk_drew ?_ | refine blk_alloc ?_ _)); exact BK155.out⟩, ⟨by (with_reducible repeat (first | refine blk_drewN ?_ _ | refine blk_drew ?_ | refine blk_alloc ?_ _)); exact BK162.out⟩, ⟨by repeat (first | (with_reducible first | exact HB.out | apply below_alloc | apply pw_below_drewN | apply below_drew1 | refine below_set ?_ GE155.out | refine below_set ?_ GE162.out) | exact HB.out)⟩⟩
               ·rw [if_neg c35] at H
                exact absurd H (by simp)
              ·rw [if_neg c34] at H
               exact absurd H (by simp)
             ·replace c33 := Bool.eq_false_iff.mpr c33
              subst c33
              have H1 : (if 0 ≤ (wrap64 (16 * x11_2)) then (if (wrap64 (16 * x11_2)) ≤ (wrap64 ((wrap64 (16 * x11_2)) + 16)) then (if (wrap64 ((wrap64 (16 * x11_2)) + 16)) ≤ (t156.size : Int) then (if x12_23.toList = (t156.extract ((wrap64 (16 * x11_2)) : Int).toNat ((wrap64 ((wrap64 (16 * x11_2)) + 16)) : Int).toNat).toList then (if ((x14_4.toList != ([] : List UInt8)) != t165) = true then (none) else (if t165 = true then (if x12_23.toList = x14_4.toList then ((cell_Put.f x163000_2 x163001_2 x11_2 x12_23).bind fun bt167 => (rootcellarlaw9_CellFlat.l0 kj30 l1 (wrap64 (1 + t150)) t156 (wrap64 (x11_2 + 1)) t151 t152 bt167.1 bt167.2.1)) else (none)) else ((cell_Put.f x163000_2 x163001_2 x11_2 x12_23).bind fun bt172 => (rootcellarlaw9_CellFlat.l0 kj30 l1 (wrap64 (1 + t150)) t156 (wrap64 (x11_2 + 1)) t151 t152 bt172.1 bt172.2.1)))) else (none)) else (none)) else (none)) else (none)) = some r := by rw [if_neg (show ¬ (false = true) by decide)] at H; exact H
              clear H
              have H := H1
              clear H1
              obtain ⟨ji40, hji40⟩ : ∃ j_ : Int, (wrap64 (16 * x11_2)) = j_ := ⟨_, rfl⟩
              replace H : (if 0 ≤ (ji40) then (if (ji40) ≤ (wrap64 ((ji40) + 16)) then (if (wrap64 ((ji40) + 16)) ≤ (t156.size : Int) then (if x12_23.toList = (t156.extract ((ji40) : Int).toNat ((wrap64 ((ji40) + 16)) : Int).toNat).toList then (if ((x14_4.toList != ([] : List UInt8)) != t165) = true then (none) else (if t165 = true then (if x12_23.toList = x14_4.toList then ((cell_Put.f x163000_2 x163001_2 x11_2 x12_23).bind fun bt167 => (rootcellarlaw9_CellFlat.l0 kj30 l1 (wrap64 (1 + t150)) t156 (wrap64 (x11_2 + 1)) t151 t152 bt167.1 bt167.2.1)) else (none)) else ((cell_Put.f x163000_2 x163001_2 x11_2 x12_23).bind fun bt172 => (rootcellarlaw9_CellFlat.l0 kj30 l1 (wrap64 (1 + t150)) t156 (wrap64 (x11_2 + 1)) t151 t152 bt172.1 bt172.2.1)))) else (none)) else (none)) else (none)) else (none)) = some r := by first | (rw [hji40] at H; exact H) | (simp only [hji40] at H ⊢; exact H)
              have hji40w : (IntKind.i64.wrap (16 * x11_2)) = ji40 := (i64_w _).trans hji40
              by_cases c41 : 0 ≤ (ji40)
              ·rw [if_pos c41] at H
               have c41b0 := eq_true c41
               have c41b1 : decide (0 ≤ (ji40)) = true := decide_eq_true c41
               clear c41
               by_cases c42 : (ji40) ≤ (wrap64 ((ji40) + 16))
               ·rw [if_pos c42] at H
                have c42b0 := eq_true c42
                have c42b1 : decide ((ji40) ≤ (wrap64 ((ji40) + 16))) = true := decide_eq_true c42
                by_cases c43 : (wrap64 ((ji40) + 16)) ≤ (t156.size : Int)
                ·rw [if_pos c43] at H
                 have c43b0 := eq_true c43
                 have c43b1 : decide ((wrap64 ((ji40) + 16)) ≤ (t156.size : Int)) = true := decide_eq_true c43
                 by_cases c44 : x12_23.toList = (t156.extract ((ji40) : Int).toNat ((wrap64 ((ji40) + 16)) : Int).toNat).toList
                 ·rw [if_pos c44] at H
                  have c44b0 : (x12_23.toList == (t156.extract ((ji40) : Int).toNat ((wrap64 ((ji40) + 16)) : Int).toNat).toList) = true := beq_iff_eq.mpr c44
                  have c44b1 : (x12_23.toList != (t156.extract ((ji40) : Int).toNat ((wrap64 ((ji40) + 16)) : Int).toNat).toList) = false := bne_eq_false_iff_eq.mpr c44
                  clear c44
                  by_cases c45 : ((x14_4.toList != ([] : List UInt8)) != t165) = true
                  ·rw [if_pos c45] at H
                   exact absurd H (by simp)
                  ·rw [if_neg c45] at H
                   have c45b0 : ((x14_4.toList != ([] : List UInt8)) != t165) = false := by simpa using c45
                   have c45b8 : (x14_4.toList == ([] : List UInt8)) = (!t165) := by simpa [bne] using c45b0
                   clear c45
                   by_cases c46 : t165 = true
                   ·subst c46
                    have H1 : (if x12_23.toList = x14_4.toList then ((cell_Put.f x163000_2 x163001_2 x11_2 x12_23).bind fun bt167 => (rootcellarlaw9_CellFlat.l0 kj30 l1 (wrap64 (1 + t150)) t156 (wrap64 (x11_2 + 1)) t151 t152 bt167.1 bt167.2.1)) else (none)) = some r := by rw [if_pos rfl] at H; exact H
                    clear H
                    have H := H1
                    clear H1
                    by_cases c47 : x12_23.toList = x14_4.toList
                    ·rw [if_pos c47] at H
                     have c47b0 : (x12_23.toList == x14_4.toList) = true := beq_iff_eq.mpr c47
                     have c47b1 : (x12_23.toList != x14_4.toList) = false := bne_eq_false_iff_eq.mpr c47
                     clear c47
                     replace H := Option.bind_eq_some_iff.mp H
                     obtain ⟨⟨t167, t168, t171⟩, A480, H⟩ := H
                     replace H : (rootcellarlaw9_CellFlat.l0 kj30 l1 (wrap64 (1 + t150)) t156 (wrap64 (x11_2 + 1)) t151 t152 t167 t168) = some r := H
                     have A48 := Aside0.mk A480
                     clear A480
                     have H' := Aside0.mk H
                     clear H
                     have hnb49 := NB162_155.out
                     have hnc49 := NB155_162.out
                     have hcz50_0 : wc.cell? ⟨gb162, 0, none⟩ = some (.int .i64 x163000_2) := (blk_cell BK162.out 0).trans rfl
                     have hcz50_1 : wc.cell? ⟨gb162, 1, none⟩ = some (u163001) := (blk_cell BK162.out 1).trans rfl
                     have hfz50_0 := blk_frozen BK162.out 0
                     have hfz50_1 := blk_frozen BK162.out 1
                     obtain ⟨Ao51, co51, eo51⟩ := Kd.R_slice HO_163001.out
                     subst eo51
                     go_wp2_with (first | ((with_reducible refine gate_callee (f := 15) rfl ?_); refine goesL_ (some 103) rfl rfl Try.func15 (by kernel_rfl) rfl #[.agg #[.int .i64 x163000_2, .slice Ao51 x163001_2.length co51], .int .i64 x11_2, .string x12_23] rfl (by (try simp only [List.map_toArray, List.map_cons, List.map_nil]); first | done | rfl | (simp only [List.length_drop, List.length_take]; rfl)) ?_; (with_reducible refine (cell_Put.calls x163000_2 _ _ x163001_2 x11_2 x12_23 t167 t168 t171 _ ?side1 ?side2 A48.out).mono ?_); (case side1 => repeat (first | exact (Kd.R_reads' HO_163001.out).2.2 | (with_reducible refine Kd.C_alloc ?_ _) | (with_reducible refine Kd.C_drewN ?_ _) | (with_reducible refine Kd.C_drew ?_))); (case side2 => exact (Kd.R_reads' HO_163001.out).2.1); rintro e w52 ⟨v169, rfl, ho0, hb⟩; refine ⟨_, rfl, ?_⟩; have n0_ := Aside0.mk (Kd.R_elder' (by (with_reducible repeat (first | apply Kd.R_alloc | apply Kd.R_drewN | apply Kd.R_drew)); exact HO_156001.out) (Kd.R_base ho0) hb); have n1_ := Aside0.mk (Kd.R_elder' (by (with_reducible repeat (first | apply Kd.R_alloc | apply Kd.R_drewN | apply Kd.R_drew)); exact HO_163001.out) (Kd.R_base ho0) hb); have n2_ := Aside0.mk (Kd.R_lower (Kd.R_new' (Kd.R_new' ho0 (Kd.R_lt (by (with_reducible repeat (first | apply Kd.R_alloc | apply Kd.R_drewN | apply Kd.R_drew)); exact HO_156001.out))) (Kd.R_lt (by (with_reducible repeat (first | apply Kd.R_alloc | apply Kd.R_drewN | apply Kd.R_drew)); exact HO_163001.out))) (below_size (by repeat (first | (with_reducible first | exact HB.out | apply below_alloc | apply pw_below_drewN | apply below_drew1 | refine below_set ?_ GE155.out | refine below_set ?_ GE162.out) | exact HB.out)))); have n3_ := Aside0.mk (blk_below (g := gb155) (o := .cells #[.int .i64 t151, .slice Ao12 t152.length co12] 27 (0, 0)) (by (with_reducible repeat (first | refine blk_drewN ?_ _ | refine blk_drew ?_ | refine blk_alloc ?_ _)); exact BK155.out) hb); have n4_ := Aside0.mk (blk_below (g := gb162) (o := .cells #[.int .i64 x163000_2, .slice Ao51 x163001_2.length co51] 27 (0, 0)) (by (with_reducible repeat (first | refine blk_drewN ?_ _ | refine blk_drew ?_ | refine blk_alloc ?_ _)); exact BK162.out) hb); have n5_ := Aside0.mk (below_step (by repeat (first | (with_reducible first | exact HB.out | apply below_alloc | apply pw_below_drewN | apply below_drew1 | refine below_set ?_ GE155.out | refine below_set ?_ GE162.out) | exact HB.out)) hb); clear HO_156001; clear HO_163001; clear BK155; clear BK162; clear HB; have HO_156001 := n0_; have HO_163001 := n1_; have HO170 := n2_; have BK155 := n3_; have BK162 := n4_; have HB := n5_; clear n0_ n1_ n2_ n3_ n4_ n5_; (try clear hb); (try clear hb2); (try clear hk); (try clear hi); (try clear ho0); have hcz53_0 : w52.cell? ⟨gb162, 0, none⟩ = some (.int .i64 x163000_2) := (blk_cell BK162.out 0).trans rfl; have hcz53_1 : w52.cell? ⟨gb162, 1, none⟩ = some (.slice Ao51 x163001_2.length co51) := (blk_cell BK162.out 1).trans rfl; have hfz53_0 := blk_frozen BK162.out 0; have hfz53_1 := blk_frozen BK162.out 1; obtain ⟨Ao54, co54, eo54⟩ := Kd.R_slice HO170.out; subst eo54))
                     go_roundg kj30
                     case measure => have := HJ6.out; have := HK2.out; have := HJ23.out; have := HK4.out; have := HJ30.out; omega
                     case rel => exact ⟨(wrap64 (x11_2 + 1)), (t167), (t168), (.slice Ao54 t168.length co54), (by first | rfl | (simp; done) | (simp [*]; done)), H', ⟨by have := HJ6.out; have := HK2.out; have := HJ23.out; have := HK4.out; have := HJ30.out; omega⟩, ⟨by (with_reducible repeat (first | apply Kd.R_alloc | apply Kd.R_drewN | apply Kd.R_drew)); exact Kd.R_mono (Kd.R_far (p := ⟨gb162, 1, none⟩) (Kd.R_far (p := ⟨gb162, 0, none⟩) (Kd.R_types HO_156001.out BK162.out (by decide)) (fun _ hk => hk.2) (.int .i64 t167)) (fun _ hk => hk.2) (.slice Ao54 t168.length co54)) (fun _ hk => hk.1.2)⟩, ⟨by (with_reducible repeat (first | apply Kd.R_alloc | apply Kd.R_drewN | apply Kd.R_drew)); exact Kd.R_mono (Kd.R_far (p := ⟨gb162, 1, none⟩) (Kd.R_far (p := ⟨gb162, 0, none⟩) (Kd.R_types HO170.out BK162.out (by decide)) (fun _ hk => hk.2) (.int .i64 t167)) (fun _ hk => hk.2) (.slice Ao54 t168.length co54)) (fun _ hk => hk.1.1.2)⟩, ⟨by (with_reducible repeat (first | refine blk_drewN ?_ _ | refine blk_drew ?_ | refine blk_alloc ?_ _)); refine blk_far ?_ NB155_162.out _; (with_reducible repeat (first | refine blk_drewN ?_ _ | refine blk_drew ?_ | refine blk_alloc ?_ _)); refine blk_far ?_ NB155_162.out _; (with_reducible repeat (first | refine blk_drewN ?_ _ | refine blk_drew ?_ | refine blk_alloc ?_ _)); exact BK155.out⟩, ⟨by (with_reducible repeat (first | refine blk_drewN ?_ _ | refine blk_drew ?_ | refine blk_alloc ?_ _)); refine blk_put (cs := #[.int .i64 t167, .slice Ao51 x163001_2.length co51]) ?_ 1 _ rfl; (with_reducible repeat (first | refine blk_drewN ?_ _ | refine blk_drew ?_ | refine blk_alloc ?_ _)); refine blk_put (cs := #[.int .i64 x163000_2, .slice Ao51 x163001_2.length co51]) ?_ 0 _ rfl; (with_reducible repeat (first | refine blk_drewN ?_ _ | refine blk_drew ?_ | refine blk_alloc ?_ _)); exact BK162.out⟩, ⟨by repeat (first | (with_reducible first | exact HB.out | apply below_alloc | apply pw_below_drewN | apply below_drew1 | refine below_set ?_ GE155.out | refine below_set ?_ GE162.out) | exact HB.out)⟩⟩
                    ·rw [if_neg c47] at H
                     exact absurd H (by simp)
                   ·replace c46 := Bool.eq_false_iff.mpr c46
                    subst c46
                    have H1 : ((cell_Put.f x163000_2 x163001_2 x11_2 x12_23).bind fun bt172 => (rootcellarlaw9_CellFlat.l0 kj30 l1 (wrap64 (1 + t150)) t156 (wrap64 (x11_2 + 1)) t151 t152 bt172.1 bt172.2.1)) = some r := by rw [if_neg (show ¬ (false = true) by decide)] at H; exact H
                    clear H
                    have H := H1
                    clear H1
                    replace H := Option.bind_eq_some_iff.mp H
                    obtain ⟨⟨t172, t173, t176⟩, A550, H⟩ := H
                    replace H : (rootcellarlaw9_CellFlat.l0 kj30 l1 (wrap64 (1 + t150)) t156 (wrap64 (x11_2 + 1)) t151 t152 t172 t173) = some r := H
                    have A55 := Aside0.mk A550
                    clear A550
                    have H' := Aside0.mk H
                    clear H
                    have hnb56 := NB162_155.out
                    have hnc56 := NB155_162.out
                    have hcz57_0 : wc.cell? ⟨gb162, 0, none⟩ = some (.int .i64 x163000_2) := (blk_cell BK162.out 0).trans rfl
                    have hcz57_1 : wc.cell? ⟨gb162, 1, none⟩ = some (u163001) := (blk_cell BK162.out 1).trans rfl
                    have hfz57_0 := blk_frozen BK162.out 0
                    have hfz57_1 := blk_frozen BK162.out 1
                    obtain ⟨Ao58, co58, eo58⟩ := Kd.R_slice HO_163001.out
                    subst eo58
                    go_wp2_with (first | ((with_reducible refine gate_callee (f := 15) rfl ?_); refine goesL_ (some 103) rfl rfl Try.func15 (by kernel_rfl) rfl #[.agg #[.int .i64 x163000_2, .slice Ao58 x163001_2.length co58], .int .i64 x11_2, .string x12_23] rfl (by (try simp only [List.map_toArray, List.map_cons, List.map_nil]); first | done | rfl | (simp only [List.length_drop, List.length_take]; rfl)) ?_; (with_reducible refine (cell_Put.calls x163000_2 _ _ x163001_2 x11_2 x12_23 t172 t173 t176 _ ?side1 ?side2 A55.out).mono ?_); (case side1 => repeat (first | exact (Kd.R_reads' HO_163001.out).2.2 | (with_reducible refine Kd.C_alloc ?_ _) | (with_reducible refine Kd.C_drewN ?_ _) | (with_reducible refine Kd.C_drew ?_))); (case side2 => exact (Kd.R_reads' HO_163001.out).2.1); rintro e w59 ⟨v174, rfl, ho0, hb⟩; refine ⟨_, rfl, ?_⟩; have n0_ := Aside0.mk (Kd.R_elder' (by (with_reducible repeat (first | apply Kd.R_alloc | apply Kd.R_drewN | apply Kd.R_drew)); exact HO_156001.out) (Kd.R_base ho0) hb); have n1_ := Aside0.mk (Kd.R_elder' (by (with_reducible repeat (first | apply Kd.R_alloc | apply Kd.R_drewN | apply Kd.R_drew)); exact HO_163001.out) (Kd.R_base ho0) hb); have n2_ := Aside0.mk (Kd.R_lower (Kd.R_new' (Kd.R_new' ho0 (Kd.R_lt (by (with_reducible repeat (first | apply Kd.R_alloc | apply Kd.R_drewN | apply Kd.R_drew)); exact HO_156001.out))) (Kd.R_lt (by (with_reducible repeat (first | apply Kd.R_alloc | apply Kd.R_drewN | apply Kd.R_drew)); exact HO_163001.out))) (below_size (by repeat (first | (with_reducible first | exact HB.out | apply below_alloc | apply pw_below_drewN | apply below_drew1 | refine below_set ?_ GE155.out | refine below_set ?_ GE162.out) | exact HB.out)))); have n3_ := Aside0.mk (blk_below (g := gb155) (o := .cells #[.int .i64 t151, .slice Ao12 t152.length co12] 27 (0, 0)) (by (with_reducible repeat (first | refine blk_drewN ?_ _ | refine blk_drew ?_ | refine blk_alloc ?_ _)); exact BK155.out) hb); have n4_ := Aside0.mk (blk_below (g := gb162) (o := .cells #[.int .i64 x163000_2, .slice Ao58 x163001_2.length co58] 27 (0, 0)) (by (with_reducible repeat (first | refine blk_drewN ?_ _ | refine blk_drew ?_ | refine blk_alloc ?_ _)); exact BK162.out) hb); have n5_ := Aside0.mk (below_step (by repeat (first | (with_reducible first | exact HB.out | apply below_alloc | apply pw_below_drewN | apply below_drew1 | refine below_set ?_ GE155.out | refine below_set ?_ GE162.out) | exact HB.out)) hb); clear HO_156001; clear HO_163001; clear BK155; clear BK162; clear HB; have HO_156001 := n0_; have HO_163001 := n1_; have HO175 := n2_; have BK155 := n3_; have BK162 := n4_; have HB := n5_; clear n0_ n1_ n2_ n3_ n4_ n5_; (try clear hb); (try clear hb2); (try clear hk); (try clear hi); (try clear ho0); have hcz60_0 : w59.cell? ⟨gb162, 0, none⟩ = some (.int .i64 x163000_2) := (blk_cell BK162.out 0).trans rfl; have hcz60_1 : w59.cell? ⟨gb162, 1, none⟩ = some (.slice Ao58 x163001_2.length co58) := (blk_cell BK162.out 1).trans rfl; have hfz60_0 := blk_frozen BK162.out 0; have hfz60_1 := blk_frozen BK162.out 1; obtain ⟨Ao61, co61, eo61⟩ := Kd.R_slice HO175.out; subst eo61))
                    go_roundg kj30
                    case measure => have := HJ6.out; have := HK2.out; have := HJ23.out; have := HK4.out; have := HJ30.out; omega
                    case rel => exact ⟨(wrap64 (x11_2 + 1)), (t172), (t173), (.slice Ao61 t173.length co61), (by first | rfl | (simp; done) | (simp [*]; done)), H', ⟨by have := HJ6.out; have := HK2.out; have := HJ23.out; have := HK4.out; have := HJ30.out; omega⟩, ⟨by (with_reducible repeat (first | apply Kd.R_alloc | apply Kd.R_drewN | apply Kd.R_drew)); exact Kd.R_mono (Kd.R_far (p := ⟨gb162, 1, none⟩) (Kd.R_far (p := ⟨gb162, 0, none⟩) (Kd.R_types HO_156001.out BK162.out (by decide)) (fun _ hk => hk.2) (.int .i64 t172)) (fun _ hk => hk.2) (.slice Ao61 t173.length co61)) (fun _ hk => hk.1.2)⟩, ⟨by (with_reducible repeat (first | apply Kd.R_alloc | apply Kd.R_drewN | apply Kd.R_drew)); exact Kd.R_mono (Kd.R_far (p := ⟨gb162, 1, none⟩) (Kd.R_far (p := ⟨gb162, 0, none⟩) (Kd.R_types HO175.out BK162.out (by decide)) (fun _ hk => hk.2) (.int .i64 t172)) (fun _ hk => hk.2) (.slice Ao61 t173.length co61)) (fun _ hk => hk.1.1.2)⟩, ⟨by (with_reducible repeat (first | refine blk_drewN ?_ _ | refine blk_drew ?_ | refine blk_alloc ?_ _)); refine blk_far ?_ NB155_162.out _; (with_reducible repeat (first | refine blk_drewN ?_ _ | refine blk_drew ?_ | refine blk_alloc ?_ _)); refine blk_far ?_ NB155_162.out _; (with_reducible repeat (first | refine blk_drewN ?_ _ | refine blk_drew ?_ | refine blk_alloc ?_ _)); exact BK155.out⟩, ⟨by (with_reducible repeat (first | refine blk_drewN ?_ _ | refine blk_drew ?_ | refine blk_alloc ?_ _)); refine blk_put (cs := #[.int .i64 t172, .slice Ao58 x163001_2.length co58]) ?_ 1 _ rfl; (with_reducible repeat (first | refine blk_drewN ?_ _ | refine blk_drew ?_ | refine blk_alloc ?_ _)); refine blk_put (cs := #[.int .i64 x163000_2, .slice Ao58 x163001_2.length co58]) ?_ 0 _ rfl; (with_reducible repeat (first | refine blk_drewN ?_ _ | refine blk_drew ?_ | refine blk_alloc ?_ _)); exact BK162.out⟩, ⟨by repeat (first | (with_reducible first | exact HB.out | apply below_alloc | apply pw_below_drewN | apply below_drew1 | refine below_set ?_ GE155.out | refine below_set ?_ GE162.out) | exact HB.out)⟩⟩
                 ·rw [if_neg c44] at H
                  exact absurd H (by simp)
                ·rw [if_neg c43] at H
                 exact absurd H (by simp)
               ·rw [if_neg c42] at H
                exact absurd H (by simp)
              ·rw [if_neg c41] at H
               exact absurd H (by simp)
      ·rw [if_neg c22] at H
       have c22b0 : decide (x11_2 < (wrap64 (1 + t150))) = false := decide_eq_false c22
       clear c22
       replace H := Option.bind_eq_some_iff.mp H
       obtain ⟨t163, A620, H⟩ := H
       replace H : (if t163.toList = t156.toList then (some ((x163001_2.length : Int) == (wrap64 (1 + t150)))) else (none)) = some r := H
       have A62 := Aside0.mk A620
       clear A620
       by_cases c63 : t163.toList = t156.toList
       ·rw [if_pos c63] at H
        have c63b0 : (t163.toList == t156.toList) = true := beq_iff_eq.mpr c63
        have c63b1 : (t163.toList != t156.toList) = false := bne_eq_false_iff_eq.mpr c63
        clear c63
        obtain rfl := Option.some.inj H
        have hnb64 := NB162_155.out
        have hnc64 := NB155_162.out
        have hcz65_0 : wr.cell? ⟨gb162, 0, none⟩ = some (.int .i64 x163000_2) := (blk_cell BK162.out 0).trans rfl
        have hcz65_1 : wr.cell? ⟨gb162, 1, none⟩ = some (u163001) := (blk_cell BK162.out 1).trans rfl
        have hfz65_0 := blk_frozen BK162.out 0
        have hfz65_1 := blk_frozen BK162.out 1
        obtain ⟨Ao66, co66, eo66⟩ := Kd.R_slice HO_163001.out
        subst eo66
        go_wp2_with (first | ((with_reducible refine gate_callee (f := 11) rfl ?_); refine goesL_ (some 107) rfl rfl Try.func11 (by kernel_rfl) rfl #[.agg #[.int .i64 x163000_2, .slice Ao66 x163001_2.length co66]] rfl (by (try simp only [List.map_toArray, List.map_cons, List.map_nil]); first | done | rfl | (simp only [List.length_drop, List.length_take]; rfl)) ?_; (with_reducible refine (cell_Flat.calls x163000_2 _ _ x163001_2 t163 _ ?side1 ?side2 A62.out).mono ?_); (case side1 => repeat (first | exact (Kd.R_reads' HO_163001.out).2.2 | (with_reducible refine Kd.C_alloc ?_ _) | (with_reducible refine Kd.C_drewN ?_ _) | (with_reducible refine Kd.C_drew ?_))); (case side2 => exact (Kd.R_reads' HO_163001.out).2.1); rintro e w67 ⟨rfl, hb⟩; refine ⟨_, rfl, ?_⟩; have n0_ := Aside0.mk (Kd.R_below (by (with_reducible repeat (first | apply Kd.R_alloc | apply Kd.R_drewN | apply Kd.R_drew)); exact HO_156001.out) hb); have n1_ := Aside0.mk (Kd.R_below (by (with_reducible repeat (first | apply Kd.R_alloc | apply Kd.R_drewN | apply Kd.R_drew)); exact HO_163001.out) hb); have n2_ := Aside0.mk (blk_below (g := gb155) (o := .cells #[.int .i64 t151, .slice Ao12 t152.length co12] 27 (0, 0)) (by (with_reducible repeat (first | refine blk_drewN ?_ _ | refine blk_drew ?_ | refine blk_alloc ?_ _)); exact BK155.out) hb); have n3_ := Aside0.mk (blk_below (g := gb162) (o := .cells #[.int .i64 x163000_2, .slice Ao66 x163001_2.length co66] 27 (0, 0)) (by (with_reducible repeat (first | refine blk_drewN ?_ _ | refine blk_drew ?_ | refine blk_alloc ?_ _)); exact BK162.out) hb); have n4_ := Aside0.mk (below_step (by repeat (first | (with_reducible first | exact HB.out | apply below_alloc | apply pw_below_drewN | apply below_drew1 | refine below_set ?_ GE155.out | refine below_set ?_ GE162.out) | exact HB.out)) hb); clear HO_156001; clear HO_163001; clear BK155; clear BK162; clear HB; have HO_156001 := n0_; have HO_163001 := n1_; have BK155 := n2_; have BK162 := n3_; have HB := n4_; clear n0_ n1_ n2_ n3_ n4_; (try clear hb); (try clear hb2); (try clear hk); (try clear hi); have hcz68_0 : w67.cell? ⟨gb162, 0, none⟩ = some (.int .i64 x163000_2) := (blk_cell BK162.out 0).trans rfl; have hcz68_1 : w67.cell? ⟨gb162, 1, none⟩ = some (.slice Ao66 x163001_2.length co66) := (blk_cell BK162.out 1).trans rfl; have hfz68_0 := blk_frozen BK162.out 0; have hfz68_1 := blk_frozen BK162.out 1))
        go_ret
        exact ⟨by first | rfl | (simp [errW_none, errW_some] <;> rfl) | (simp [*, errW_none, errW_some] <;> rfl), by repeat (first | (with_reducible first | exact HB.out | apply below_alloc | apply pw_below_drewN | apply below_drew1 | refine below_set ?_ GE155.out | refine below_set ?_ GE162.out) | exact HB.out)⟩
       ·rw [if_neg c63] at H
        exact absurd H (by simp)

/-- THE ONE PURE STATEMENT of rootcellarlaw9_CellFlat: yours. -/
def rootcellarlaw9_CellFlat.Pure : Prop := ∀ (a0 : Int) (l1 : List Int), (Lit.int .i64 a0).wf = true → l1.length ≤ maxLen → l1.length * 8 ≤ 140737488351232 → (∀ x ∈ l1, (Lit.int .i64 x).wf = true) → ∃ k, rootcellarlaw9_CellFlat.f k a0 l1 = some true
theorem rootcellarlaw9_CellFlat.walk (P : rootcellarlaw9_CellFlat.Pure) (a0 : Int) (a1 : Option Addr) (len1 cap1 : Nat) (z1 : List Int) (w : World) (w0 : (Lit.int .i64 a0).wf = true) (w1 : (a1 = none ∧ len1 = 0 ∧ cap1 = 0 ∧ z1 = []) ∨ ∃ x, a1 = some x ∧ len1 ≤ cap1 ∧ cap1 ≤ maxLen ∧ z1.length = cap1 ∧ (∀ i, i < z1.length → w.cell? (x.add i) = some (.int .i64 (z1.getD i 0))) ∧ ∀ n ∈ z1, (Lit.int .i64 n).wf = true) (y1 : len1 * 8 ≤ 140737488351232) :
  Calls Try.prog 3 #[.int .i64 a0, .slice a1 len1 cap1] w fun e w' => e = .returned (.bool true) ∧ Below w.heap.size w w' := by
 obtain ⟨l1, rfl, hr1, hm1, hw1, hc1⟩ := ReadsInt.ofRowC w1
 obtain ⟨k, h⟩ := P a0 l1 w0 hm1 y1 hw1
 refine (rootcellarlaw9_CellFlat.calls k a0 _ _ l1 true w (Kd.C_of_reads (d := (0 : Int)) (h1 := fun _ => rfl) hr1) hc1 h).mono ?_
 rintro e w' ⟨rfl, hd⟩
 exact ⟨rfl, hd⟩

end Go.Proofs.Ytnjhgbhafpnclaa.Pr
