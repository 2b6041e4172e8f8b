-- Printed by a program of this session (wip/pr/hook.py) by way of the kit's printer; contracts of my own beside it.
import Derived.Test.YtnjhgbhafpnclaaPrx0
import Derived.Test.YtnjhgbhafpnclaaPrx1
import Derived.Test.YtnjhgbhafpnclaaPrx2
import Derived.Test.YtnjhgbhafpnclaaPrx3
import Derived.Test.YtnjhgbhafpnclaaPrx4
import Derived.Test.YtnjhgbhafpnclaaPrx8
import Derived.Test.YtnjhgbhafpnclaaPrx9
import Derived.Test.YtnjhgbhafpnclaaPrx10
import Derived.Test.YtnjhgbhafpnclaaHRight
namespace Go.Proofs.Ytnjhgbhafpnclaa.Pr
open Go.RowKit Go.Proofs.YtnjhgbhafpnclaaW.PrintWords Go.Proofs.YtnjhgbhafpnclaaW.PrintLast Go.Proofs.YtnjhgbhafpnclaaW.PrintMore
attribute [local go_sem] max2_int min2_int max_two min_two max_three min_three max_four min_four   -- for this text's walks alone
set_option linter.unusedVariables false
set_option linter.unusedSimpArgs false

/-! ### rootcellarlaw9_CellThrough: function 4 -/
mutual
def rootcellarlaw9_CellThrough.j0 : Nat → Int → Bool → Int → List (S51) → Int → List (S51) → Int → List (S51) → Option (Bool)
 | 0, _, _, _, _, _, _, _, _ => none
 | k + 1, x10, x51, x244000, x244001, x249000, x249001, x254000, x254001 => if x51 = true then (none) else ((cell_Over.f k x244000 x244001 x249000 x249001).bind fun bt257 => (rootcellarlaw9_CellThrough.l0 k x10 0 x244000 x244001 x249000 x249001 x254000 x254001 bt257.1 bt257.2))
def rootcellarlaw9_CellThrough.l0 : Nat → Int → Int → Int → List (S51) → Int → List (S51) → Int → List (S51) → Int → List (S51) → Option (Bool)
 | 0, _, _, _, _, _, _, _, _, _, _ => none
 | k + 1, x10, x15, x244000, x244001, x249000, x249001, x254000, x254001, x262000, x262001 => if x15 < x10 then ((cell_Get.f x262000 x262001 x15).bind fun bt262 => ((cell_Get.f x244000 x244001 x15).bind fun bt264 => (if bt264.2 = true then (if bt262.1.toList = bt264.1.toList then (if (bt262.2 != bt264.2) = true then (none) else (rootcellarlaw9_CellThrough.l0 k x10 (wrap64 (x15 + 1)) x244000 x244001 x249000 x249001 x254000 x254001 x262000 x262001)) else (none)) else ((cell_Get.f x249000 x249001 x15).bind fun bt266 => (if bt262.1.toList = bt266.1.toList then (if (bt262.2 != bt266.2) = true then (none) else (rootcellarlaw9_CellThrough.l0 k x10 (wrap64 (x15 + 1)) x244000 x244001 x249000 x249001 x254000 x254001 x262000 x262001)) else (none)))))) else ((cell_New.f x10).bind fun bt268 => ((cell_Right.f x262000 x262001).bind fun t274 => (if t274 = true then ((cell_Over.f k x262000 x262001 x254000 x254001).bind fun bt275 => ((cell_Over.f k x249000 x249001 x254000 x254001).bind fun bt279 => ((cell_Over.f k x244000 x244001 bt279.1 bt279.2).bind fun bt283 => ((rootcellarlaw9_as.f k bt283.1 bt283.2).bind fun bt287 => ((rootcellarlaw9_same.f k bt275.1 bt275.2 bt287.1 bt287.2).bind fun t291 => (if t291 = true then ((cell_Over.f k x244000 x244001 x244000 x244001).bind fun bt292 => ((rootcellarlaw9_as.f k x244000 x244001).bind fun bt296 => ((rootcellarlaw9_same.f k bt292.1 bt292.2 bt296.1 bt296.2).bind fun t300 => (if t300 = true then ((cell_Over.f k x244000 x244001 bt268.1 bt268.2.1).bind fun bt301 => ((rootcellarlaw9_as.f k x244000 x244001).bind fun bt305 => ((rootcellarlaw9_same.f k bt301.1 bt301.2 bt305.1 bt305.2).bind fun t309 => (if t309 = true then ((cell_Over.f k bt268.1 bt268.2.1 x244000 x244001).bind fun bt310 => ((rootcellarlaw9_as.f k x244000 x244001).bind fun bt314 => ((rootcellarlaw9_same.f k bt310.1 bt310.2 bt314.1 bt314.2).bind fun t318 => (some t318)))) else (none))))) else (none))))) else (none))))))) else (none))))
end
def rootcellarlaw9_CellThrough.f (k : Nat) (a0 : Int) (l1 : List Int) (l2 : List Int) (l3 : List Int) : Option (Bool) := (rootcellarlaw9_shown.f k).bind fun t237 => ((rootcellarlaw9_pick.f a0 64).bind fun t238 => ((rootcellarlaw9_made.f k (wrap64 (1 + t238)) l1).bind fun bt239 => ((rootcellarlaw9_made.f k (wrap64 (1 + t238)) l2).bind fun bt244 => ((rootcellarlaw9_made.f k (wrap64 (1 + t238)) l3).bind fun bt249 => (if t237 = true then ((cell_Right.f bt239.1 bt239.2).bind fun t254 => (if t254 = true then ((cell_Right.f bt244.1 bt244.2).bind fun t255 => (if t255 = true then ((cell_Right.f bt249.1 bt249.2).bind fun t256 => (rootcellarlaw9_CellThrough.j0 k (wrap64 (1 + t238)) (!t256) bt239.1 bt239.2 bt244.1 bt244.2 bt249.1 bt249.2)) else (none))) else (none))) else (none))))))
theorem rootcellarlaw9_CellThrough.mono_l : ∀ k, (∀ y0 y1 y2 y3 y4 y5 y6 y7, LeO (rootcellarlaw9_CellThrough.j0 k y0 y1 y2 y3 y4 y5 y6 y7) (rootcellarlaw9_CellThrough.j0 (k + 1) y0 y1 y2 y3 y4 y5 y6 y7)) ∧ (∀ y0 y1 y2 y3 y4 y5 y6 y7 y8 y9, LeO (rootcellarlaw9_CellThrough.l0 k y0 y1 y2 y3 y4 y5 y6 y7 y8 y9) (rootcellarlaw9_CellThrough.l0 (k + 1) y0 y1 y2 y3 y4 y5 y6 y7 y8 y9))
 | 0 => ⟨fun _ _ _ _ _ _ _ _ r h => by simp [rootcellarlaw9_CellThrough.j0] at h, fun _ _ _ _ _ _ _ _ _ _ r h => by simp [rootcellarlaw9_CellThrough.l0] at h⟩
 | k + 1 => by
  obtain ⟨ih0, ih1⟩ := rootcellarlaw9_CellThrough.mono_l k
  refine ⟨?_, ?_⟩
  ·intro y0 y1 y2 y3 y4 y5 y6 y7
   unfold rootcellarlaw9_CellThrough.j0
   repeat' first
   | (with_reducible exact ih0 _ _ _ _ _ _ _ _)
   | (with_reducible exact ih1 _ _ _ _ _ _ _ _ _ _)
   | (with_reducible exact cell_Over.mono _ _ _ _ _)
   | (with_reducible exact rootcellarlaw9_as.mono _ _ _)
   | (with_reducible exact rootcellarlaw9_made.mono _ _ _)
   | (with_reducible exact rootcellarlaw9_same.mono _ _ _ _ _)
   | (with_reducible exact rootcellarlaw9_shown.mono _)
   | (with_reducible exact LeO.refl _)
   | (with_reducible exact LeO.none _)
   | (with_reducible refine LeO.ite ?_ ?_)
   | (with_reducible refine LeO.bind ?_ (fun _ => ?_))
   | exact ih0 _ _ _ _ _ _ _ _
   | exact ih1 _ _ _ _ _ _ _ _ _ _
   | exact cell_Over.mono _ _ _ _ _
   | exact rootcellarlaw9_as.mono _ _ _
   | exact rootcellarlaw9_made.mono _ _ _
   | exact rootcellarlaw9_same.mono _ _ _ _ _
   | exact rootcellarlaw9_shown.mono _
   | exact LeO.none _
   | refine LeO.ite ?_ ?_
   | refine LeO.bind ?_ (fun _ => ?_)
  ·intro y0 y1 y2 y3 y4 y5 y6 y7 y8 y9
   unfold rootcellarlaw9_CellThrough.l0
   repeat' first
   | (with_reducible exact ih0 _ _ _ _ _ _ _ _)
   | (with_reducible exact ih1 _ _ _ _ _ _ _ _ _ _)
   | (with_reducible exact cell_Over.mono _ _ _ _ _)
   | (with_reducible exact rootcellarlaw9_as.mono _ _ _)
   | (with_reducible exact rootcellarlaw9_made.mono _ _ _)
   | (with_reducible exact rootcellarlaw9_same.mono _ _ _ _ _)
   | (with_reducible exact rootcellarlaw9_shown.mono _)
   | (with_reducible exact LeO.refl _)
   | (with_reducible exact LeO.none _)
   | (with_reducible refine LeO.ite ?_ ?_)
   | (with_reducible refine LeO.bind ?_ (fun _ => ?_))
   | exact ih0 _ _ _ _ _ _ _ _
   | exact ih1 _ _ _ _ _ _ _ _ _ _
   | exact cell_Over.mono _ _ _ _ _
   | exact rootcellarlaw9_as.mono _ _ _
   | exact rootcellarlaw9_made.mono _ _ _
   | exact rootcellarlaw9_same.mono _ _ _ _ _
   | exact rootcellarlaw9_shown.mono _
   | exact LeO.none _
   | refine LeO.ite ?_ ?_
   | refine LeO.bind ?_ (fun _ => ?_)
theorem rootcellarlaw9_CellThrough.mono : ∀ a0 a1 a2 a3 k, LeO (rootcellarlaw9_CellThrough.f k a0 a1 a2 a3) (rootcellarlaw9_CellThrough.f (k + 1) a0 a1 a2 a3) := by
 intro a0 a1 a2 a3 k
 obtain ⟨ih0, ih1⟩ := rootcellarlaw9_CellThrough.mono_l k
 unfold rootcellarlaw9_CellThrough.f
 repeat' first
   | (with_reducible exact ih0 _ _ _ _ _ _ _ _)
   | (with_reducible exact ih1 _ _ _ _ _ _ _ _ _ _)
   | (with_reducible exact cell_Over.mono _ _ _ _ _)
   | (with_reducible exact rootcellarlaw9_as.mono _ _ _)
   | (with_reducible exact rootcellarlaw9_made.mono _ _ _)
   | (with_reducible exact rootcellarlaw9_same.mono _ _ _ _ _)
   | (with_reducible exact rootcellarlaw9_shown.mono _)
   | (with_reducible exact LeO.refl _)
   | (with_reducible exact LeO.none _)
   | (with_reducible refine LeO.ite ?_ ?_)
   | (with_reducible refine LeO.bind ?_ (fun _ => ?_))
   | exact ih0 _ _ _ _ _ _ _ _
   | exact ih1 _ _ _ _ _ _ _ _ _ _
   | exact cell_Over.mono _ _ _ _ _
   | exact rootcellarlaw9_as.mono _ _ _
   | exact rootcellarlaw9_made.mono _ _ _
   | exact rootcellarlaw9_same.mono _ _ _ _ _
   | exact rootcellarlaw9_shown.mono _
   | exact LeO.none _
   | refine LeO.ite ?_ ?_
   | refine LeO.bind ?_ (fun _ => ?_)
def rootcellarlaw9_CellThrough.T19 : Bool × List (List Nat × List Nat) := (true, [([], []), ([0], [0]), ([1, 1], [1]), ([2], [2]), ([2], [2]), ([3, 4, 2, 2], [2, 3, 4]), ([2], [2]), ([2], [2]), ([2], [2]), ([7, 8, 5, 2], [2, 7, 8]), ([6, 9, 9, 2], [2, 6, 9]), ([10, 10, 2], [2, 10]), ([5, 11, 11, 2], [2, 5, 11]), ([2, 12], [2, 12]), ([13, 12], [13]), ([14], [14]), ([14], [14]), ([15, 16, 14, 14], [14, 15, 16]), ([14], [14]), ([18, 17, 14], [14, 18]), ([17, 19, 19, 14], [14, 17, 19]), ([14, 20], [14, 20]), ([21, 20], [21]), ([22], [22]), ([22], [22]), ([23, 24, 22, 22], [22, 23, 24]), ([22], [22]), ([26, 25, 22], [22, 26]), ([25, 27, 27, 22], [22, 25, 27]), ([22, 28], [22, 28]), ([29, 28], [29]), ([30], [30]), ([30], [30]), ([31, 32, 30, 30], [30, 31, 32]), ([30], [30]), ([34, 33, 30], [30, 34]), ([33, 35, 35, 30], [30, 33, 35]), ([30, 36], [30, 36]), ([37, 36, 0, 1, 2, 3, 4, 5, 6, 7, 8, 9, 10, 11, 12, 13, 14, 15, 16, 17, 18, 19, 20, 21, 22, 23, 24, 25, 26, 27, 28, 29, 30, 31, 32, 33, 34, 35, 36, 37], [37])])
def rootcellarlaw9_CellThrough.B19 : List Nat := [0, 1, 3, 7, 7, 31, 7, 7, 7, 447, 1023, 2047, 4095, 8191, 16383, 32767, 32767, 131071, 32767, 524287, 1048575, 2097151, 4194303, 8388607, 8388607, 33554431, 8388607, 134217727, 268435455, 536870911, 1073741823, 2147483647, 2147483647, 8589934591, 2147483647, 34359738367, 68719476735, 137438953471, 274877906943]
theorem rootcellarlaw9_CellThrough.tab19 : rtab .any (opsOf Try.f4 19) = rootcellarlaw9_CellThrough.T19 := by kernel_rfl
theorem rootcellarlaw9_CellThrough.bits19 : waitsOk rootcellarlaw9_CellThrough.T19.2 rootcellarlaw9_CellThrough.B19 = true := by kernel_rfl
set_option maxHeartbeats 8000000 in
set_option maxRecDepth 100000 in
theorem rootcellarlaw9_CellThrough.calls (k : Nat) (a0 : Int) (A1 : Option Addr) (c1 : Nat) (l1 : List Int) (A2 : Option Addr) (c2 : Nat) (l2 : List Int) (A3 : Option Addr) (c3 : Nat) (l3 : List Int) (r : Bool) (w : World) (hr1 : Kd.C (Kd.int .i64) w A1 l1.length l1) (hc1 : l1.length ≤ c1) (hr2 : Kd.C (Kd.int .i64) w A2 l2.length l2) (hc2 : l2.length ≤ c2) (hr3 : Kd.C (Kd.int .i64) w A3 l3.length l3) (hc3 : l3.length ≤ c3) (h : rootcellarlaw9_CellThrough.f k a0 l1 l2 l3 = some r) :
  Calls Try.prog 4 #[.int .i64 a0, .slice A1 l1.length c1, .slice A2 l2.length c2, .slice A3 l3.length c3] w fun e w' => e = .returned (.bool r) ∧ Below w.heap.size w w' := by
 have hu27 := Try.underlying27
 have HR1 := Aside0.mk hr1
 have HC1 := Aside0.mk hc1
 clear hr1 hc1
 have HR2 := Aside0.mk hr2
 have HC2 := Aside0.mk hc2
 clear hr2 hc2
 have HR3 := Aside0.mk hr3
 have HC3 := Aside0.mk hc3
 clear hr3 hc3
 have HB := Aside0.mk (Below.refl w.heap.size w)
 have H : ((rootcellarlaw9_shown.f k).bind fun t237 => ((rootcellarlaw9_pick.f a0 64).bind fun t238 => ((rootcellarlaw9_made.f k (wrap64 (1 + t238)) l1).bind fun bt239 => ((rootcellarlaw9_made.f k (wrap64 (1 + t238)) l2).bind fun bt244 => ((rootcellarlaw9_made.f k (wrap64 (1 + t238)) l3).bind fun bt249 => (if t237 = true then ((cell_Right.f bt239.1 bt239.2).bind fun t254 => (if t254 = true then ((cell_Right.f bt244.1 bt244.2).bind fun t255 => (if t255 = true then ((cell_Right.f bt249.1 bt249.2).bind fun t256 => (rootcellarlaw9_CellThrough.j0 k (wrap64 (1 + t238)) (!t256) bt239.1 bt239.2 bt244.1 bt244.2 bt249.1 bt249.2)) else (none))) else (none))) else (none))))))) = some r := h
 clear h
 replace H := Option.bind_eq_some_iff.mp H
 obtain ⟨t237, A50, H⟩ := H
 replace H : ((rootcellarlaw9_pick.f a0 64).bind fun t238 => ((rootcellarlaw9_made.f k (wrap64 (1 + t238)) l1).bind fun bt239 => ((rootcellarlaw9_made.f k (wrap64 (1 + t238)) l2).bind fun bt244 => ((rootcellarlaw9_made.f k (wrap64 (1 + t238)) l3).bind fun bt249 => (if t237 = true then ((cell_Right.f bt239.1 bt239.2).bind fun t254 => (if t254 = true then ((cell_Right.f bt244.1 bt244.2).bind fun t255 => (if t255 = true then ((cell_Right.f bt249.1 bt249.2).bind fun t256 => (rootcellarlaw9_CellThrough.j0 k (wrap64 (1 + t238)) (!t256) bt239.1 bt239.2 bt244.1 bt244.2 bt249.1 bt249.2)) else (none))) else (none))) else (none)))))) = some r := H
 have A5 := Aside0.mk A50
 clear A50
 replace H := Option.bind_eq_some_iff.mp H
 obtain ⟨t238, A60, H⟩ := H
 replace H : ((rootcellarlaw9_made.f k (wrap64 (1 + t238)) l1).bind fun bt239 => ((rootcellarlaw9_made.f k (wrap64 (1 + t238)) l2).bind fun bt244 => ((rootcellarlaw9_made.f k (wrap64 (1 + t238)) l3).bind fun bt249 => (if t237 = true then ((cell_Right.f bt239.1 bt239.2).bind fun t254 => (if t254 = true then ((cell_Right.f bt244.1 bt244.2).bind fun t255 => (if t255 = true then ((cell_Right.f bt249.1 bt249.2).bind fun t256 => (rootcellarlaw9_CellThrough.j0 k (wrap64 (1 + t238)) (!t256) bt239.1 bt239.2 bt244.1 bt244.2 bt249.1 bt249.2)) else (none))) else (none))) else (none))))) = some r := H
 have A6 := Aside0.mk A60
 clear A60
 replace H := Option.bind_eq_some_iff.mp H
 obtain ⟨⟨t239, t240⟩, A70, H⟩ := H
 replace H : ((rootcellarlaw9_made.f k (wrap64 (1 + t238)) l2).bind fun bt244 => ((rootcellarlaw9_made.f k (wrap64 (1 + t238)) l3).bind fun bt249 => (if t237 = true then ((cell_Right.f t239 t240).bind fun t254 => (if t254 = true then ((cell_Right.f bt244.1 bt244.2).bind fun t255 => (if t255 = true then ((cell_Right.f bt249.1 bt249.2).bind fun t256 => (rootcellarlaw9_CellThrough.j0 k (wrap64 (1 + t238)) (!t256) t239 t240 bt244.1 bt244.2 bt249.1 bt249.2)) else (none))) else (none))) else (none)))) = some r := H
 have A7 := Aside0.mk A70
 clear A70
 replace H := Option.bind_eq_some_iff.mp H
 obtain ⟨⟨t244, t245⟩, A80, H⟩ := H
 replace H : ((rootcellarlaw9_made.f k (wrap64 (1 + t238)) l3).bind fun bt249 => (if t237 = true then ((cell_Right.f t239 t240).bind fun t254 => (if t254 = true then ((cell_Right.f t244 t245).bind fun t255 => (if t255 = true then ((cell_Right.f bt249.1 bt249.2).bind fun t256 => (rootcellarlaw9_CellThrough.j0 k (wrap64 (1 + t238)) (!t256) t239 t240 t244 t245 bt249.1 bt249.2)) else (none))) else (none))) else (none))) = some r := H
 have A8 := Aside0.mk A80
 clear A80
 replace H := Option.bind_eq_some_iff.mp H
 obtain ⟨⟨t249, t250⟩, A90, H⟩ := H
 replace H : (if t237 = true then ((cell_Right.f t239 t240).bind fun t254 => (if t254 = true then ((cell_Right.f t244 t245).bind fun t255 => (if t255 = true then ((cell_Right.f t249 t250).bind fun t256 => (rootcellarlaw9_CellThrough.j0 k (wrap64 (1 + t238)) (!t256) t239 t240 t244 t245 t249 t250)) else (none))) else (none))) else (none)) = some r := H
 have A9 := Aside0.mk A90
 clear A90
 have HC10 := Aside0.mk H
 clear H
 go_enter Try.func4, Try.ntmps4
 go_upto_region 6 with (first | ((with_reducible refine gate_callee (f := 8) rfl ?_); refine goesL_ (some 22) rfl rfl Try.func8 (by kernel_rfl) rfl #[] rfl (by (try simp only [List.map_toArray, List.map_cons, List.map_nil]); first | done | rfl | (simp only [List.length_drop, List.length_take]; rfl)) ?_; (with_reducible refine (rootcellarlaw9_shown.calls k  t237 _ A5.out).mono ?_); rintro e w11 ⟨rfl, hb⟩; refine ⟨_, rfl, ?_⟩; have n0_ := Aside0.mk (below_step (by repeat (first | (with_reducible first | exact HB.out | apply below_alloc | apply pw_below_drewN | apply below_drew1) | exact HB.out)) hb); clear HB; have HB := n0_; clear n0_; (try clear hb); (try clear hb2); (try clear hk); (try clear hi)) | ((with_reducible refine gate_callee (f := 9) rfl ?_); refine goesL_ (some 24) rfl rfl Try.func9 (by kernel_rfl) rfl #[.int .i64 a0, .int .i64 64] rfl (by (try simp only [List.map_toArray, List.map_cons, List.map_nil]); first | done | rfl | (simp only [List.length_drop, List.length_take]; rfl)) ?_; (with_reducible refine (rootcellarlaw9_pick.calls a0 64 t238 _ A6.out).mono ?_); rintro e w' ⟨rfl, ⟨nd, rfl⟩⟩; refine ⟨_, rfl, ?_⟩; (try (rw [drewN_self w11]; generalize hq_ : World.drewN w11 _ = w11; have n0_ : Aside0 (Below w.heap.size w w11) := ⟨by rw [← hq_]; exact (by repeat (first | (with_reducible first | exact HB.out | apply below_alloc | apply pw_below_drewN | apply below_drew1) | exact HB.out))⟩; clear HB hq_; have HB := n0_; clear n0_))) | ((with_reducible refine gate_callee (f := 10) rfl ?_); refine goesL_ (some 28) rfl rfl Try.func10 (by kernel_rfl) rfl #[.int .i64 (wrap64 (1 + t238)), .slice A1 l1.length c1] rfl (by (try simp only [List.map_toArray, List.map_cons, List.map_nil]); first | done | rfl | (simp only [List.length_drop, List.length_take]; rfl)) ?_; (with_reducible refine (rootcellarlaw9_made.calls k (wrap64 (1 + t238)) _ _ l1 t239 t240 _ ?side1 ?side2 A7.out).mono ?_); (case side1 => repeat (first | exact (Kd.C_below HR1.out HB.out) | (with_reducible refine Kd.C_alloc ?_ _) | (with_reducible refine Kd.C_drewN ?_ _) | (with_reducible refine Kd.C_drew ?_))); (case side2 => exact HC1.out); rintro e w12 ⟨v241, rfl, ho0, hb⟩; refine ⟨_, rfl, ?_⟩; have n0_ := Aside0.mk (Kd.R_lower ho0 (below_size (by repeat (first | (with_reducible first | exact HB.out | apply below_alloc | apply pw_below_drewN | apply below_drew1) | exact HB.out)))); have n1_ := Aside0.mk (below_step (by repeat (first | (with_reducible first | exact HB.out | apply below_alloc | apply pw_below_drewN | apply below_drew1) | exact HB.out)) hb); clear HB; have HO242 := n0_; have HB := n1_; clear n0_ n1_; (try clear hb); (try clear hb2); (try clear hk); (try clear hi); (try clear ho0)) | ((with_reducible refine gate_dst (N := 11) rfl ?_); refine box_event ?hg (N := 11) ?hd (cs := #[.int .i64 0, .slice none 0 0]) (t := 27) ?hr ?_; (case hd => rfl); (case hg => rfl); (case hr => first | (go_simp; done) | (go_simp; rfl)); intro gb243 hg w13 hbox hb; have n0_ := Aside0.mk (Kd.R_below (by (with_reducible repeat (first | apply Kd.R_alloc | apply Kd.R_drewN | apply Kd.R_drew)); exact HO242.out) hb); have n1_ := Aside0.mk (below_step (by repeat (first | (with_reducible first | exact HB.out | apply below_alloc | apply pw_below_drewN | apply below_drew1) | exact HB.out)) hb); have n2_ := Aside0.mk (hbox); have n3_ := Aside0.mk ((by rw [hg]; exact (below_size (by repeat (first | (with_reducible first | exact HB.out | apply below_alloc | apply pw_below_drewN | apply below_drew1) | exact HB.out))) : w.heap.size ≤ gb243)); have n4_ := Aside0.mk ((by rw [hg]; exact (below_size (by repeat (first | (with_reducible first | exact HB.out | apply below_alloc | apply pw_below_drewN | apply below_drew1) | exact HB.out))) : w.heap.size ≤ gb243)); clear HO242; clear HB; have HO242 := n0_; have HB := n1_; have BK243 := n2_; have GW243 := n3_; have GE243 := n4_; clear n0_ n1_ n2_ n3_ n4_; clear hb hbox hg; have hcz14_0 : w13.cell? ⟨gb243, 0, none⟩ = some (.int .i64 0) := (blk_cell BK243.out 0).trans rfl; have hcz14_1 : w13.cell? ⟨gb243, 1, none⟩ = some (.slice none 0 0) := (blk_cell BK243.out 1).trans rfl; have hfz14_0 := blk_frozen BK243.out 0; have hfz14_1 := blk_frozen BK243.out 1; obtain ⟨Ao15, co15, eo15⟩ := Kd.R_slice HO242.out; subst eo15) | ((with_reducible refine gate_callee (f := 10) rfl ?_); refine goesL_ (some 31) rfl rfl Try.func10 (by kernel_rfl) rfl #[.int .i64 (wrap64 (1 + t238)), .slice A2 l2.length c2] rfl (by (try simp only [List.map_toArray, List.map_cons, List.map_nil]); first | done | rfl | (simp only [List.length_drop, List.length_take]; rfl)) ?_; (with_reducible refine (rootcellarlaw9_made.calls k (wrap64 (1 + t238)) _ _ l2 t244 t245 _ ?side1 ?side2 A8.out).mono ?_); (case side1 => exact Kd.C_below HR2.out (by repeat (first | (with_reducible first | exact HB.out | apply below_alloc | apply pw_below_drewN | apply below_drew1 | refine below_set ?_ GE243.out) | exact HB.out))); (case side2 => exact HC2.out); rintro e w16 ⟨v246, rfl, ho0, hb⟩; refine ⟨_, rfl, ?_⟩; have n0_ := Aside0.mk (Kd.R_elder' (by (with_reducible repeat (first | apply Kd.R_alloc | apply Kd.R_drewN | apply Kd.R_drew)); exact (Kd.R_mono (Kd.R_far (p := ⟨gb243, 1, none⟩) (Kd.R_far (p := ⟨gb243, 0, none⟩) (Kd.R_types HO242.out BK243.out (by decide)) (fun _ hk => hk.2) (.int .i64 t239)) (fun _ hk => hk.2) (.slice Ao15 t240.length co15)) (fun _ h_ => h_.1))) (Kd.R_base ho0) hb); have n1_ := Aside0.mk (Kd.R_lower (Kd.R_new' ho0 (Kd.R_lt (by (with_reducible repeat (first | apply Kd.R_alloc | apply Kd.R_drewN | apply Kd.R_drew)); exact (Kd.R_mono (Kd.R_far (p := ⟨gb243, 1, none⟩) (Kd.R_far (p := ⟨gb243, 0, none⟩) (Kd.R_types HO242.out BK243.out (by decide)) (fun _ hk => hk.2) (.int .i64 t239)) (fun _ hk => hk.2) (.slice Ao15 t240.length co15)) (fun _ h_ => h_.1))))) (below_size (by repeat (first | (with_reducible first | exact HB.out | apply below_alloc | apply pw_below_drewN | apply below_drew1 | refine below_set ?_ GE243.out) | exact HB.out)))); have n2_ := Aside0.mk (blk_below (g := gb243) (o := .cells #[.int .i64 t239, .slice Ao15 t240.length co15] 27 (0, 0)) (by (with_reducible repeat (first | refine blk_drewN ?_ _ | refine blk_drew ?_ | refine blk_alloc ?_ _)); refine blk_put (cs := #[.int .i64 t239, .slice none 0 0]) ?_ 1 _ rfl; (with_reducible repeat (first | refine blk_drewN ?_ _ | refine blk_drew ?_ | refine blk_alloc ?_ _)); refine blk_put (cs := #[.int .i64 0, .slice none 0 0]) ?_ 0 _ rfl; (with_reducible repeat (first | refine blk_drewN ?_ _ | refine blk_drew ?_ | refine blk_alloc ?_ _)); exact BK243.out) hb); have n3_ := Aside0.mk (below_step (by repeat (first | (with_reducible first | exact HB.out | apply below_alloc | apply pw_below_drewN | apply below_drew1 | refine below_set ?_ GE243.out) | exact HB.out)) hb); clear HO242; clear BK243; clear HB; have HO242 := n0_; have HO247 := n1_; have BK243 := n2_; have HB := n3_; clear n0_ n1_ n2_ n3_; (try clear hb); (try clear hb2); (try clear hk); (try clear hi); (try clear ho0)) | ((with_reducible refine gate_dst (N := 12) rfl ?_); refine box_event ?hg (N := 12) ?hd (cs := #[.int .i64 0, .slice none 0 0]) (t := 27) ?hr ?_; (case hd => rfl); (case hg => rfl); (case hr => first | (go_simp; done) | (go_simp; rfl)); intro gb248 hg w17 hbox hb; have n0_ := Aside0.mk (Kd.R_below (by (with_reducible repeat (first | apply Kd.R_alloc | apply Kd.R_drewN | apply Kd.R_drew)); exact HO242.out) hb); have n1_ := Aside0.mk (Kd.R_below (by (with_reducible repeat (first | apply Kd.R_alloc | apply Kd.R_drewN | apply Kd.R_drew)); exact HO247.out) hb); have n2_ := Aside0.mk (blk_below (g := gb243) (o := .cells #[.int .i64 t239, .slice Ao15 t240.length co15] 27 (0, 0)) (by (with_reducible repeat (first | refine blk_drewN ?_ _ | refine blk_drew ?_ | refine blk_alloc ?_ _)); exact BK243.out) hb); have n3_ := Aside0.mk (below_step (by repeat (first | (with_reducible first | exact HB.out | apply below_alloc | apply pw_below_drewN | apply below_drew1 | refine below_set ?_ GE243.out) | exact HB.out)) hb); have n4_ := Aside0.mk (hbox); have n5_ := Aside0.mk ((by rw [hg]; exact (below_size (by repeat (first | (with_reducible first | exact HB.out | apply below_alloc | apply pw_below_drewN | apply below_drew1 | refine below_set ?_ GE243.out) | exact HB.out))) : w.heap.size ≤ gb248)); have n6_ := Aside0.mk ((by rw [hg]; exact (below_size (by repeat (first | (with_reducible first | exact HB.out | apply below_alloc | apply pw_below_drewN | apply below_drew1 | refine below_set ?_ GE243.out) | exact HB.out))) : w.heap.size ≤ gb248)); have n7_ := Aside0.mk ((by rw [hg]; exact Nat.ne_of_lt (blk_lt (g := gb243) (o := .cells #[.int .i64 t239, .slice Ao15 t240.length co15] 27 (0, 0)) (by (with_reducible repeat (first | refine blk_drewN ?_ _ | refine blk_drew ?_ | refine blk_alloc ?_ _)); exact BK243.out)) : gb243 ≠ gb248)); have n8_ := Aside0.mk ((by rw [hg]; exact Nat.ne_of_gt (blk_lt (g := gb243) (o := .cells #[.int .i64 t239, .slice Ao15 t240.length co15] 27 (0, 0)) (by (with_reducible repeat (first | refine blk_drewN ?_ _ | refine blk_drew ?_ | refine blk_alloc ?_ _)); exact BK243.out)) : gb248 ≠ gb243)); clear HO242; clear HO247; clear BK243; clear HB; have HO242 := n0_; have HO247 := n1_; have BK243 := n2_; have HB := n3_; have BK248 := n4_; have GW248 := n5_; have GE248 := n6_; have NB243_248 := n7_; have NB248_243 := n8_; clear n0_ n1_ n2_ n3_ n4_ n5_ n6_ n7_ n8_; clear hb hbox hg; have hnb18 := NB248_243.out; have hnc18 := NB243_248.out; have hcz19_0 : w17.cell? ⟨gb248, 0, none⟩ = some (.int .i64 0) := (blk_cell BK248.out 0).trans rfl; have hcz19_1 : w17.cell? ⟨gb248, 1, none⟩ = some (.slice none 0 0) := (blk_cell BK248.out 1).trans rfl; have hfz19_0 := blk_frozen BK248.out 0; have hfz19_1 := blk_frozen BK248.out 1; obtain ⟨Ao20, co20, eo20⟩ := Kd.R_slice HO247.out; subst eo20) | ((with_reducible refine gate_callee (f := 10) rfl ?_); refine goesL_ (some 34) rfl rfl Try.func10 (by kernel_rfl) rfl #[.int .i64 (wrap64 (1 + t238)), .slice A3 l3.length c3] rfl (by (try simp only [List.map_toArray, List.map_cons, List.map_nil]); first | done | rfl | (simp only [List.length_drop, List.length_take]; rfl)) ?_; (with_reducible refine (rootcellarlaw9_made.calls k (wrap64 (1 + t238)) _ _ l3 t249 t250 _ ?side1 ?side2 A9.out).mono ?_); (case side1 => exact Kd.C_below HR3.out (by repeat (first | (with_reducible first | exact HB.out | apply below_alloc | apply pw_below_drewN | apply below_drew1 | refine below_set ?_ GE243.out | refine below_set ?_ GE248.out) | exact HB.out))); (case side2 => exact HC3.out); rintro e w21 ⟨v251, rfl, ho0, hb⟩; refine ⟨_, rfl, ?_⟩; have n0_ := Aside0.mk (Kd.R_elder' (by (with_reducible repeat (first | apply Kd.R_alloc | apply Kd.R_drewN | apply Kd.R_drew)); exact (Kd.R_mono (Kd.R_far (p := ⟨gb248, 1, none⟩) (Kd.R_far (p := ⟨gb248, 0, none⟩) (Kd.R_types HO242.out BK248.out (by decide)) (fun _ hk => hk.2) (.int .i64 t244)) (fun _ hk => hk.2) (.slice Ao20 t245.length co20)) (fun _ h_ => h_.1))) (Kd.R_base ho0) hb); have n1_ := Aside0.mk (Kd.R_elder' (by (with_reducible repeat (first | apply Kd.R_alloc | apply Kd.R_drewN | apply Kd.R_drew)); exact (Kd.R_mono (Kd.R_far (p := ⟨gb248, 1, none⟩) (Kd.R_far (p := ⟨gb248, 0, none⟩) (Kd.R_types HO247.out BK248.out (by decide)) (fun _ hk => hk.2) (.int .i64 t244)) (fun _ hk => hk.2) (.slice Ao20 t245.length co20)) (fun _ h_ => h_.1))) (Kd.R_base ho0) hb); have n2_ := Aside0.mk (Kd.R_lower (Kd.R_new' (Kd.R_new' ho0 (Kd.R_lt (by (with_reducible repeat (first | apply Kd.R_alloc | apply Kd.R_drewN | apply Kd.R_drew)); exact (Kd.R_mono (Kd.R_far (p := ⟨gb248, 1, none⟩) (Kd.R_far (p := ⟨gb248, 0, none⟩) (Kd.R_types HO242.out BK248.out (by decide)) (fun _ hk => hk.2) (.int .i64 t244)) (fun _ hk => hk.2) (.slice Ao20 t245.length co20)) (fun _ h_ => h_.1))))) (Kd.R_lt (by (with_reducible repeat (first | apply Kd.R_alloc | apply Kd.R_drewN | apply Kd.R_drew)); exact (Kd.R_mono (Kd.R_far (p := ⟨gb248, 1, none⟩) (Kd.R_far (p := ⟨gb248, 0, none⟩) (Kd.R_types HO247.out BK248.out (by decide)) (fun _ hk => hk.2) (.int .i64 t244)) (fun _ hk => hk.2) (.slice Ao20 t245.length co20)) (fun _ h_ => h_.1))))) (below_size (by repeat (first | (with_reducible first | exact HB.out | apply below_alloc | apply pw_below_drewN | apply below_drew1 | refine below_set ?_ GE243.out | refine below_set ?_ GE248.out) | exact HB.out)))); have n3_ := Aside0.mk (blk_below (g := gb243) (o := .cells #[.int .i64 t239, .slice Ao15 t240.length co15] 27 (0, 0)) (by (with_reducible repeat (first | refine blk_drewN ?_ _ | refine blk_drew ?_ | refine blk_alloc ?_ _)); refine blk_far ?_ NB243_248.out _; (with_reducible repeat (first | refine blk_drewN ?_ _ | refine blk_drew ?_ | refine blk_alloc ?_ _)); refine blk_far ?_ NB243_248.out _; (with_reducible repeat (first | refine blk_drewN ?_ _ | refine blk_drew ?_ | refine blk_alloc ?_ _)); exact BK243.out) hb); have n4_ := Aside0.mk (blk_below (g := gb248) (o := .cells #[.int .i64 t244, .slice Ao20 t245.length co20] 27 (0, 0)) (by (with_reducible repeat (first | refine blk_drewN ?_ _ | refine blk_drew ?_ | refine blk_alloc ?_ _)); refine blk_put (cs := #[.int .i64 t244, .slice none 0 0]) ?_ 1 _ rfl; (with_reducible repeat (first | refine blk_drewN ?_ _ | refine blk_drew ?_ | refine blk_alloc ?_ _)); refine blk_put (cs := #[.int .i64 0, .slice none 0 0]) ?_ 0 _ rfl; (with_reducible repeat (first | refine blk_drewN ?_ _ | refine blk_drew ?_ | refine blk_alloc ?_ _)); exact BK248.out) hb); have n5_ := Aside0.mk (below_step (by repeat (first | (with_reducible first | exact HB.out | apply below_alloc | apply pw_below_drewN | apply below_drew1 | refine below_set ?_ GE243.out | refine below_set ?_ GE248.out) | exact HB.out)) hb); clear HO242; clear HO247; clear BK243; clear BK248; clear HB; have HO242 := n0_; have HO247 := n1_; have HO252 := n2_; have BK243 := n3_; have BK248 := n4_; have HB := n5_; clear n0_ n1_ n2_ n3_ n4_ n5_; (try clear hb); (try clear hb2); (try clear hk); (try clear hi); (try clear ho0)) | ((with_reducible refine gate_dst (N := 13) rfl ?_); refine box_event ?hg (N := 13) ?hd (cs := #[.int .i64 0, .slice none 0 0]) (t := 27) ?hr ?_; (case hd => rfl); (case hg => rfl); (case hr => first | (go_simp; done) | (go_simp; rfl)); intro gb253 hg w22 hbox hb; have n0_ := Aside0.mk (Kd.R_below (by (with_reducible repeat (first | apply Kd.R_alloc | apply Kd.R_drewN | apply Kd.R_drew)); exact HO242.out) hb); have n1_ := Aside0.mk (Kd.R_below (by (with_reducible repeat (first | apply Kd.R_alloc | apply Kd.R_drewN | apply Kd.R_drew)); exact HO247.out) hb); have n2_ := Aside0.mk (Kd.R_below (by (with_reducible repeat (first | apply Kd.R_alloc | apply Kd.R_drewN | apply Kd.R_drew)); exact HO252.out) hb); have n3_ := Aside0.mk (blk_below (g := gb243) (o := .cells #[.int .i64 t239, .slice Ao15 t240.length co15] 27 (0, 0)) (by (with_reducible repeat (first | refine blk_drewN ?_ _ | refine blk_drew ?_ | refine blk_alloc ?_ _)); exact BK243.out) hb); have n4_ := Aside0.mk (blk_below (g := gb248) (o := .cells #[.int .i64 t244, .slice Ao20 t245.length co20] 27 (0, 0)) (by (with_reducible repeat (first | refine blk_drewN ?_ _ | refine blk_drew ?_ | refine blk_alloc ?_ _)); exact BK248.out) hb); have n5_ := Aside0.mk (below_step (by repeat (first | (with_reducible first | exact HB.out | apply below_alloc | apply pw_below_drewN | apply below_drew1 | refine below_set ?_ GE243.out | refine below_set ?_ GE248.out) | exact HB.out)) hb); have n6_ := Aside0.mk (hbox); have n7_ := Aside0.mk ((by rw [hg]; exact (below_size (by repeat (first | (with_reducible first | exact HB.out | apply below_alloc | apply pw_below_drewN | apply below_drew1 | refine below_set ?_ GE243.out | refine below_set ?_ GE248.out) | exact HB.out))) : w.heap.size ≤ gb253)); have n8_ := Aside0.mk ((by rw [hg]; exact (below_size (by repeat (first | (with_reducible first | exact HB.out | apply below_alloc | apply pw_below_drewN | apply below_drew1 | refine below_set ?_ GE243.out | refine below_set ?_ GE248.out) | exact HB.out))) : w.heap.size ≤ gb253)); have n9_ := Aside0.mk ((by rw [hg]; exact Nat.ne_of_lt (blk_lt (g := gb243) (o := .cells #[.int .i64 t239, .slice Ao15 t240.length co15] 27 (0, 0)) (by (with_reducible repeat (first | refine blk_drewN ?_ _ | refine blk_drew ?_ | refine blk_alloc ?_ _)); exact BK243.out)) : gb243 ≠ gb253)); have n10_ := Aside0.mk ((by rw [hg]; exact Nat.ne_of_gt (blk_lt (g := gb243) (o := .cells #[.int .i64 t239, .slice Ao15 t240.length co15] 27 (0, 0)) (by (with_reducible repeat (first | refine blk_drewN ?_ _ | refine blk_drew ?_ | refine blk_alloc ?_ _)); exact BK243.out)) : gb253 ≠ gb243)); have n11_ := Aside0.mk ((by rw [hg]; exact Nat.ne_of_lt (blk_lt (g := gb248) (o := .cells #[.int .i64 t244, .slice Ao20 t245.length co20] 27 (0, 0)) (by (with_reducible repeat (first | refine blk_drewN ?_ _ | refine blk_drew ?_ | refine blk_alloc ?_ _)); exact BK248.out)) : gb248 ≠ gb253)); have n12_ := Aside0.mk ((by rw [hg]; exact Nat.ne_of_gt (blk_lt (g := gb248) (o := .cells #[.int .i64 t244, .slice Ao20 t245.length co20] 27 (0, 0)) (by (with_reducible repeat (first | refine blk_drewN ?_ _ | refine blk_drew ?_ | refine blk_alloc ?_ _)); exact BK248.out)) : gb253 ≠ gb248)); clear HO242; clear HO247; clear HO252; clear BK243; clear BK248; clear HB; have HO242 := n0_; have HO247 := n1_; have HO252 := n2_; have BK243 := n3_; have BK248 := n4_; have HB := n5_; have BK253 := n6_; have GW253 := n7_; have GE253 := n8_; have NB243_253 := n9_; have NB253_243 := n10_; have NB248_253 := n11_; have NB253_248 := n12_; clear n0_ n1_ n2_ n3_ n4_ n5_ n6_ n7_ n8_ n9_ n10_ n11_ n12_; clear hb hbox hg; have hnb23 := NB253_243.out; have hnc23 := NB243_253.out; have hnb24 := NB253_248.out; have hnc24 := NB248_253.out; have hcz25_0 : w22.cell? ⟨gb253, 0, none⟩ = some (.int .i64 0) := (blk_cell BK253.out 0).trans rfl; have hcz25_1 : w22.cell? ⟨gb253, 1, none⟩ = some (.slice none 0 0) := (blk_cell BK253.out 1).trans rfl; have hfz25_0 := blk_frozen BK253.out 0; have hfz25_1 := blk_frozen BK253.out 1; obtain ⟨Ao26, co26, eo26⟩ := Kd.R_slice HO252.out; subst eo26))
 (try simp only [Act.put, List.setIfInBounds_toArray, List.set_cons_zero, List.set_cons_succ])
 go_cut [51] (fun v51 wc => ∃ (kq : Nat) (x51_9 : Bool), v51 = .bool x51_9 ∧ Aside0 (rootcellarlaw9_CellThrough.j0 kq (wrap64 (1 + t238)) x51_9 t239 t240 t244 t245 t249 t250 = some r) ∧ Aside0 (kq ≤ k) ∧ Aside0 (Kd.R k51 51 wc w.heap.size (fun k_ => some k_ ≠ ((.slice Ao20 t245.length co20) : Value).ownBlock ∧ some k_ ≠ ((.slice Ao26 t250.length co26) : Value).ownBlock) (.slice Ao15 t240.length co15) t240) ∧ Aside0 (Kd.R k51 51 wc w.heap.size (fun k_ => some k_ ≠ ((.slice Ao15 t240.length co15) : Value).ownBlock ∧ some k_ ≠ ((.slice Ao26 t250.length co26) : Value).ownBlock) (.slice Ao20 t245.length co20) t245) ∧ Aside0 (Kd.R k51 51 wc w.heap.size (fun k_ => some k_ ≠ ((.slice Ao15 t240.length co15) : Value).ownBlock ∧ some k_ ≠ ((.slice Ao20 t245.length co20) : Value).ownBlock) (.slice Ao26 t250.length co26) t250) ∧ Aside0 (wc.heap[gb243]? = some (.cells #[.int .i64 t239, (.slice Ao15 t240.length co15)] 27 (0, 0))) ∧ Aside0 (wc.heap[gb248]? = some (.cells #[.int .i64 t244, (.slice Ao20 t245.length co20)] 27 (0, 0))) ∧ Aside0 (wc.heap[gb253]? = some (.cells #[.int .i64 t249, (.slice Ao26 t250.length co26)] 27 (0, 0))) ∧ Aside0 (Below w.heap.size w wc))
 case first =>
  have H := HC10.out
  clear HC10
  by_cases c27 : t237 = true
  ·subst c27
   have H1 : ((cell_Right.f t239 t240).bind fun t254 => (if t254 = true then ((cell_Right.f t244 t245).bind fun t255 => (if t255 = true then ((cell_Right.f t249 t250).bind fun t256 => (rootcellarlaw9_CellThrough.j0 k (wrap64 (1 + t238)) (!t256) t239 t240 t244 t245 t249 t250)) else (none))) else (none))) = some r := by rw [if_pos rfl] at H; exact H
   clear H
   have H := H1
   clear H1
   replace H := Option.bind_eq_some_iff.mp H
   obtain ⟨t254, A280, H⟩ := H
   replace H : (if t254 = true then ((cell_Right.f t244 t245).bind fun t255 => (if t255 = true then ((cell_Right.f t249 t250).bind fun t256 => (rootcellarlaw9_CellThrough.j0 k (wrap64 (1 + t238)) (!t256) t239 t240 t244 t245 t249 t250)) else (none))) else (none)) = some r := H
   have A28 := Aside0.mk A280
   clear A280
   by_cases c29 : t254 = true
   ·subst c29
    have H1 : ((cell_Right.f t244 t245).bind fun t255 => (if t255 = true then ((cell_Right.f t249 t250).bind fun t256 => (rootcellarlaw9_CellThrough.j0 k (wrap64 (1 + t238)) (!t256) t239 t240 t244 t245 t249 t250)) else (none))) = some r := by rw [if_pos rfl] at H; exact H
    clear H
    have H := H1
    clear H1
    replace H := Option.bind_eq_some_iff.mp H
    obtain ⟨t255, A300, H⟩ := H
    replace H : (if t255 = true then ((cell_Right.f t249 t250).bind fun t256 => (rootcellarlaw9_CellThrough.j0 k (wrap64 (1 + t238)) (!t256) t239 t240 t244 t245 t249 t250)) else (none)) = some r := H
    have A30 := Aside0.mk A300
    clear A300
    by_cases c31 : t255 = true
    ·subst c31
     have H1 : ((cell_Right.f t249 t250).bind fun t256 => (rootcellarlaw9_CellThrough.j0 k (wrap64 (1 + t238)) (!t256) t239 t240 t244 t245 t249 t250)) = some r := by rw [if_pos rfl] at H; exact H
     clear H
     have H := H1
     clear H1
     replace H := Option.bind_eq_some_iff.mp H
     obtain ⟨t256, A320, H⟩ := H
     replace H : (rootcellarlaw9_CellThrough.j0 k (wrap64 (1 + t238)) (!t256) t239 t240 t244 t245 t249 t250) = some r := H
     have A32 := Aside0.mk A320
     clear A320
     have H' := Aside0.mk H
     clear H
     have hnb33 := NB243_248.out
     have hnc33 := NB248_243.out
     have hnb34 := NB243_253.out
     have hnc34 := NB253_243.out
     have hcz35_0 : w22.cell? ⟨gb243, 0, none⟩ = some (.int .i64 t239) := (blk_cell BK243.out 0).trans rfl
     have hcz35_1 : w22.cell? ⟨gb243, 1, none⟩ = some (.slice Ao15 t240.length co15) := (blk_cell BK243.out 1).trans rfl
     have hfz35_0 := blk_frozen BK243.out 0
     have hfz35_1 := blk_frozen BK243.out 1
     go_wp2_with (first | (go_at_call 16; (with_reducible refine (cell_Right.calls t239 _ _ t240 true _ ?side1 ?side2 A28.out).mono ?_); (case side1 => refine (Kd.R_reads' (e := 51) (base := w.heap.size) (ok := fun k_ => ((True ∧ some k_ ≠ (.slice Ao20 t245.length co20 : Value).ownBlock) ∧ some k_ ≠ (.slice Ao26 t250.length co26 : Value).ownBlock)) (n := t240.length) (c := co15) ?_).2.2; exact (by (with_reducible repeat (first | apply Kd.R_alloc | apply Kd.R_drewN | apply Kd.R_drew)); exact (Kd.R_mono (Kd.R_far (p := ⟨gb253, 1, none⟩) (Kd.R_far (p := ⟨gb253, 0, none⟩) (Kd.R_types HO242.out BK253.out (by decide)) (fun _ hk => hk.2) (.int .i64 t249)) (fun _ hk => hk.2) (.slice Ao26 t250.length co26)) (fun _ h_ => h_.1)))); (case side2 => exact (Kd.R_reads' HO242.out).2.1); rintro e w36 ⟨rfl, hb⟩; have n0_ := Aside0.mk (Kd.R_below (by (with_reducible repeat (first | apply Kd.R_alloc | apply Kd.R_drewN | apply Kd.R_drew)); exact (Kd.R_mono (Kd.R_far (p := ⟨gb253, 1, none⟩) (Kd.R_far (p := ⟨gb253, 0, none⟩) (Kd.R_types HO242.out BK253.out (by decide)) (fun _ hk => hk.2) (.int .i64 t249)) (fun _ hk => hk.2) (.slice Ao26 t250.length co26)) (fun _ h_ => h_.1))) hb); have n1_ := Aside0.mk (Kd.R_below (by (with_reducible repeat (first | apply Kd.R_alloc | apply Kd.R_drewN | apply Kd.R_drew)); exact (Kd.R_mono (Kd.R_far (p := ⟨gb253, 1, none⟩) (Kd.R_far (p := ⟨gb253, 0, none⟩) (Kd.R_types HO247.out BK253.out (by decide)) (fun _ hk => hk.2) (.int .i64 t249)) (fun _ hk => hk.2) (.slice Ao26 t250.length co26)) (fun _ h_ => h_.1))) hb); have n2_ := Aside0.mk (Kd.R_below (by (with_reducible repeat (first | apply Kd.R_alloc | apply Kd.R_drewN | apply Kd.R_drew)); exact (Kd.R_mono (Kd.R_far (p := ⟨gb253, 1, none⟩) (Kd.R_far (p := ⟨gb253, 0, none⟩) (Kd.R_types HO252.out BK253.out (by decide)) (fun _ hk => hk.2) (.int .i64 t249)) (fun _ hk => hk.2) (.slice Ao26 t250.length co26)) (fun _ h_ => h_.1))) hb); have n3_ := Aside0.mk (blk_below (g := gb243) (o := .cells #[.int .i64 t239, .slice Ao15 t240.length co15] 27 (0, 0)) (by (with_reducible repeat (first | refine blk_drewN ?_ _ | refine blk_drew ?_ | refine blk_alloc ?_ _)); refine blk_far ?_ NB243_253.out _; (with_reducible repeat (first | refine blk_drewN ?_ _ | refine blk_drew ?_ | refine blk_alloc ?_ _)); refine blk_far ?_ NB243_253.out _; (with_reducible repeat (first | refine blk_drewN ?_ _ | refine blk_drew ?_ | refine blk_alloc ?_ _)); exact BK243.out) hb); have n4_ := Aside0.mk (blk_below (g := gb248) (o := .cells #[.int .i64 t244, .slice Ao20 t245.length co20] 27 (0, 0)) (by (with_reducible repeat (first | refine blk_drewN ?_ _ | refine blk_drew ?_ | refine blk_alloc ?_ _)); refine blk_far ?_ NB248_253.out _; (with_reducible repeat (first | refine blk_drewN ?_ _ | refine blk_drew ?_ | refine blk_alloc ?_ _)); refine blk_far ?_ NB248_253.out _; (with_reducible repeat (first | refine blk_drewN ?_ _ | refine blk_drew ?_ | refine blk_alloc ?_ _)); exact BK248.out) hb); have n5_ := Aside0.mk (blk_below (g := gb253) (o := .cells #[.int .i64 t249, .slice Ao26 t250.length co26] 27 (0, 0)) (by (with_reducible repeat (first | refine blk_drewN ?_ _ | refine blk_drew ?_ | refine blk_alloc ?_ _)); refine blk_put (cs := #[.int .i64 t249, .slice none 0 0]) ?_ 1 _ rfl; (with_reducible repeat (first | refine blk_drewN ?_ _ | refine blk_drew ?_ | refine blk_alloc ?_ _)); refine blk_put (cs := #[.int .i64 0, .slice none 0 0]) ?_ 0 _ rfl; (with_reducible repeat (first | refine blk_drewN ?_ _ | refine blk_drew ?_ | refine blk_alloc ?_ _)); exact BK253.out) hb); have n6_ := Aside0.mk (below_step (by repeat (first | (with_reducible first | exact HB.out | apply below_alloc | apply pw_below_drewN | apply below_drew1 | refine below_set ?_ GE243.out | refine below_set ?_ GE248.out | refine below_set ?_ GE253.out) | exact HB.out)) hb); clear HO242; clear HO247; clear HO252; clear BK243; clear BK248; clear BK253; clear HB; have HO242 := n0_; have HO247 := n1_; have HO252 := n2_; have BK243 := n3_; have BK248 := n4_; have BK253 := n5_; have HB := n6_; clear n0_ n1_ n2_ n3_ n4_ n5_ n6_; (try clear hb); (try clear hb2); (try clear hk); (try clear hi); have hnb37 := NB248_253.out; have hnc37 := NB253_248.out; have hcz38_0 : w36.cell? ⟨gb248, 0, none⟩ = some (.int .i64 t244) := (blk_cell BK248.out 0).trans rfl; have hcz38_1 : w36.cell? ⟨gb248, 1, none⟩ = some (.slice Ao20 t245.length co20) := (blk_cell BK248.out 1).trans rfl; have hfz38_0 := blk_frozen BK248.out 0; have hfz38_1 := blk_frozen BK248.out 1) | (go_at_call 16; (with_reducible refine (cell_Right.calls t244 _ _ t245 true _ ?side1 ?side2 A30.out).mono ?_); (case side1 => repeat (first | exact (Kd.R_reads' HO247.out).2.2 | (with_reducible refine Kd.C_alloc ?_ _) | (with_reducible refine Kd.C_drewN ?_ _) | (with_reducible refine Kd.C_drew ?_))); (case side2 => exact (Kd.R_reads' HO247.out).2.1); rintro e w39 ⟨rfl, hb⟩; have n0_ := Aside0.mk (Kd.R_below (by (with_reducible repeat (first | apply Kd.R_alloc | apply Kd.R_drewN | apply Kd.R_drew)); exact HO242.out) hb); have n1_ := Aside0.mk (Kd.R_below (by (with_reducible repeat (first | apply Kd.R_alloc | apply Kd.R_drewN | apply Kd.R_drew)); exact HO247.out) hb); have n2_ := Aside0.mk (Kd.R_below (by (with_reducible repeat (first | apply Kd.R_alloc | apply Kd.R_drewN | apply Kd.R_drew)); exact HO252.out) hb); have n3_ := Aside0.mk (blk_below (g := gb243) (o := .cells #[.int .i64 t239, .slice Ao15 t240.length co15] 27 (0, 0)) (by (with_reducible repeat (first | refine blk_drewN ?_ _ | refine blk_drew ?_ | refine blk_alloc ?_ _)); exact BK243.out) hb); have n4_ := Aside0.mk (blk_below (g := gb248) (o := .cells #[.int .i64 t244, .slice Ao20 t245.length co20] 27 (0, 0)) (by (with_reducible repeat (first | refine blk_drewN ?_ _ | refine blk_drew ?_ | refine blk_alloc ?_ _)); exact BK248.out) hb); have n5_ := Aside0.mk (blk_below (g := gb253) (o := .cells #[.int .i64 t249, .slice Ao26 t250.length co26] 27 (0, 0)) (by (with_reducible repeat (first | refine blk_drewN ?_ _ | refine blk_drew ?_ | refine blk_alloc ?_ _)); exact BK253.out) hb); have n6_ := Aside0.mk (below_step (by repeat (first | (with_reducible first | exact HB.out | apply below_alloc | apply pw_below_drewN | apply below_drew1 | refine below_set ?_ GE243.out | refine below_set ?_ GE248.out | refine below_set ?_ GE253.out) | exact HB.out)) hb); clear HO242; clear HO247; clear HO252; clear BK243; clear BK248; clear BK253; clear HB; have HO242 := n0_; have HO247 := n1_; have HO252 := n2_; have BK243 := n3_; have BK248 := n4_; have BK253 := n5_; have HB := n6_; clear n0_ n1_ n2_ n3_ n4_ n5_ n6_; (try clear hb); (try clear hb2); (try clear hk); (try clear hi); have hcz40_0 : w39.cell? ⟨gb253, 0, none⟩ = some (.int .i64 t249) := (blk_cell BK253.out 0).trans rfl; have hcz40_1 : w39.cell? ⟨gb253, 1, none⟩ = some (.slice Ao26 t250.length co26) := (blk_cell BK253.out 1).trans rfl; have hfz40_0 := blk_frozen BK253.out 0; have hfz40_1 := blk_frozen BK253.out 1) | (go_at_call 16; (with_reducible refine (cell_Right.calls t249 _ _ t250 t256 _ ?side1 ?side2 A32.out).mono ?_); (case side1 => repeat (first | exact (Kd.R_reads' HO252.out).2.2 | (with_reducible refine Kd.C_alloc ?_ _) | (with_reducible refine Kd.C_drewN ?_ _) | (with_reducible refine Kd.C_drew ?_))); (case side2 => exact (Kd.R_reads' HO252.out).2.1); rintro e w41 ⟨rfl, hb⟩; have n0_ := Aside0.mk (Kd.R_below (by (with_reducible repeat (first | apply Kd.R_alloc | apply Kd.R_drewN | apply Kd.R_drew)); exact HO242.out) hb); have n1_ := Aside0.mk (Kd.R_below (by (with_reducible repeat (first | apply Kd.R_alloc | apply Kd.R_drewN | apply Kd.R_drew)); exact HO247.out) hb); have n2_ := Aside0.mk (Kd.R_below (by (with_reducible repeat (first | apply Kd.R_alloc | apply Kd.R_drewN | apply Kd.R_drew)); exact HO252.out) hb); have n3_ := Aside0.mk (blk_below (g := gb243) (o := .cells #[.int .i64 t239, .slice Ao15 t240.length co15] 27 (0, 0)) (by (with_reducible repeat (first | refine blk_drewN ?_ _ | refine blk_drew ?_ | refine blk_alloc ?_ _)); exact BK243.out) hb); have n4_ := Aside0.mk (blk_below (g := gb248) (o := .cells #[.int .i64 t244, .slice Ao20 t245.length co20] 27 (0, 0)) (by (with_reducible repeat (first | refine blk_drewN ?_ _ | refine blk_drew ?_ | refine blk_alloc ?_ _)); exact BK248.out) hb); have n5_ := Aside0.mk (blk_below (g := gb253) (o := .cells #[.int .i64 t249, .slice Ao26 t250.length co26] 27 (0, 0)) (by (with_reducible repeat (first | refine blk_drewN ?_ _ | refine blk_drew ?_ | refine blk_alloc ?_ _)); exact BK253.out) hb); have n6_ := Aside0.mk (below_step (by repeat (first | (with_reducible first | exact HB.out | apply below_alloc | apply pw_below_drewN | apply below_drew1 | refine below_set ?_ GE243.out | refine below_set ?_ GE248.out | refine below_set ?_ GE253.out) | exact HB.out)) hb); clear HO242; clear HO247; clear HO252; clear BK243; clear BK248; clear BK253; clear HB; have HO242 := n0_; have HO247 := n1_; have HO252 := n2_; have BK243 := n3_; have BK248 := n4_; have BK253 := n5_; have HB := n6_; clear n0_ n1_ n2_ n3_ n4_ n5_ n6_; (try clear hb); (try clear hb2); (try clear hk); (try clear hi)))
     go_meet
     case rel => exact ⟨_, (!t256), (by first | rfl | (simp; done) | (simp [*]; done)), H', ⟨by first | omega | exact Nat.le_refl _⟩, ⟨by (with_reducible repeat (first | apply Kd.R_alloc | apply Kd.R_drewN | apply Kd.R_drew)); exact Kd.R_mono HO242.out (fun _ hk => ⟨hk.1.2, hk.2⟩)⟩, ⟨by (with_reducible repeat (first | apply Kd.R_alloc | apply Kd.R_drewN | apply Kd.R_drew)); exact Kd.R_mono HO247.out (fun _ hk => ⟨hk.1.2, hk.2⟩)⟩, ⟨by (with_reducible repeat (first | apply Kd.R_alloc | apply Kd.R_drewN | apply Kd.R_drew)); exact Kd.R_mono HO252.out (fun _ hk => ⟨hk.1.2, hk.2⟩)⟩, ⟨by (with_reducible repeat (first | refine blk_drewN ?_ _ | refine blk_drew ?_ | refine blk_alloc ?_ _)); exact BK243.out⟩, ⟨by (with_reducible repeat (first | refine blk_drewN ?_ _ | refine blk_drew ?_ | refine blk_alloc ?_ _)); exact BK248.out⟩, ⟨by (with_reducible repeat (first | refine blk_drewN ?_ _ | refine blk_drew ?_ | refine blk_alloc ?_ _)); exact BK253.out⟩, ⟨by repeat (first | (with_reducible first | exact HB.out | apply below_alloc | apply pw_below_drewN | apply below_drew1 | refine below_set ?_ GE243.out | refine below_set ?_ GE248.out | refine below_set ?_ GE253.out) | exact HB.out)⟩⟩
    ·replace c31 := Bool.eq_false_iff.mpr c31
     subst c31
     have H1 : (none) = some r := by rw [if_neg (show ¬ (false = true) by decide)] at H; exact H
     clear H
     have H := H1
     clear H1
     exact absurd H (by simp)
   ·replace c29 := Bool.eq_false_iff.mpr c29
    subst c29
    have H1 : (none) = some r := by rw [if_neg (show ¬ (false = true) by decide)] at H; exact H
    clear H
    have H := H1
    clear H1
    exact absurd H (by simp)
  ·replace c27 := Bool.eq_false_iff.mpr c27
   subst c27
   have H1 : (none) = some r := by rw [if_neg (show ¬ (false = true) by decide)] at H; exact H
   clear H
   have H := H1
   clear H1
   exact absurd H (by simp)
 case rest =>
  clear HC10
  try clear c1
  try clear c2
  try clear p2
  try clear c3
  try clear c4
  try clear p6
  try clear c8
  try clear c9
  try clear c10
  try clear c18
  try clear c23
  try clear c24
  try clear c27
  try clear c29
  try clear c31
  try clear c33
  try clear c34
  try clear c37
  try clear hcz14_0
  try clear hcz14_1
  try clear hcz19_0
  try clear hcz19_1
  try clear hcz25_0
  try clear hcz25_1
  try clear hcz35_0
  try clear hcz35_1
  try clear hcz38_0
  try clear hcz38_1
  try clear hcz40_0
  try clear hcz40_1
  try clear hfz14_0
  try clear hfz14_1
  try clear hfz19_0
  try clear hfz19_1
  try clear hfz25_0
  try clear hfz25_1
  try clear hfz35_0
  try clear hfz35_1
  try clear hfz38_0
  try clear hfz38_1
  try clear hfz40_0
  try clear hfz40_1
  obtain ⟨kq, x51_9, rfl, HA, HJ9, HO_244001, HO_249001, HO_254001, BK243, BK248, BK253, HB⟩ := hcut
  cases kq with
  | zero => exact absurd HA.out (by simp [rootcellarlaw9_CellThrough.j0])
  | succ kj9 =>
   have H := HA.out
   clear HA
   simp only [rootcellarlaw9_CellThrough.j0] at H
   by_cases c42 : x51_9 = true
   ·subst c42
    have H1 : (none) = some r := by rw [if_pos rfl] at H; exact H
    clear H
    have H := H1
    clear H1
    exact absurd H (by simp)
   ·replace c42 := Bool.eq_false_iff.mpr c42
    subst c42
    have H1 : ((cell_Over.f kj9 t239 t240 t244 t245).bind fun bt257 => (rootcellarlaw9_CellThrough.l0 kj9 (wrap64 (1 + t238)) 0 t239 t240 t244 t245 t249 t250 bt257.1 bt257.2)) = some r := by rw [if_neg (show ¬ (false = true) by decide)] at H; exact H
    clear H
    have H := H1
    clear H1
    replace H := Option.bind_eq_some_iff.mp H
    obtain ⟨⟨t257, t258⟩, A430, H⟩ := H
    replace H : (rootcellarlaw9_CellThrough.l0 kj9 (wrap64 (1 + t238)) 0 t239 t240 t244 t245 t249 t250 t257 t258) = some r := H
    have A43 := Aside0.mk A430
    clear A430
    have H' := Aside0.mk H
    clear H
    have hnb44 := NB243_248.out
    have hnc44 := NB248_243.out
    have hnb45 := NB243_253.out
    have hnc45 := NB253_243.out
    have hcz46_0 : wc.cell? ⟨gb243, 0, none⟩ = some (.int .i64 t239) := (blk_cell BK243.out 0).trans rfl
    have hcz46_1 : wc.cell? ⟨gb243, 1, none⟩ = some (.slice Ao15 t240.length co15) := (blk_cell BK243.out 1).trans rfl
    have hfz46_0 := blk_frozen BK243.out 0
    have hfz46_1 := blk_frozen BK243.out 1
    have hnb47 := NB248_253.out
    have hnc47 := NB253_248.out
    have hcz48_0 : wc.cell? ⟨gb248, 0, none⟩ = some (.int .i64 t244) := (blk_cell BK248.out 0).trans rfl
    have hcz48_1 : wc.cell? ⟨gb248, 1, none⟩ = some (.slice Ao20 t245.length co20) := (blk_cell BK248.out 1).trans rfl
    have hfz48_0 := blk_frozen BK248.out 0
    have hfz48_1 := blk_frozen BK248.out 1
    go_wp2_with (first | ((with_reducible refine gate_callee (f := 17) rfl ?_); refine goesL_ (some 54) rfl rfl Try.func17 (by kernel_rfl) rfl #[.agg #[.int .i64 t239, .slice Ao15 t240.length co15], .agg #[.int .i64 t244, .slice Ao20 t245.length co20]] rfl (by (try simp only [List.map_toArray, List.map_cons, List.map_nil]); first | done | rfl | (simp only [List.length_drop, List.length_take]; rfl)) ?_; (with_reducible refine (cell_Over.calls kj9 t239 (fun k_ => some k_ = (.slice Ao15 t240.length co15 : Value).ownBlock) _ _ t240 t244 (fun k_ => some k_ = (.slice Ao20 t245.length co20 : Value).ownBlock) _ _ t245 t257 t258 _ ?side1 ?side2 A43.out).mono ?_); (case side1 => exact Kd.R_V (Kd.R_tight rfl (Kd.R_types (Kd.R_types (Kd.R_types (HO_244001.out) BK243.out (by decide)) BK248.out (by decide)) BK253.out (by decide)))); (case side2 => exact Kd.R_V (Kd.R_tight rfl (Kd.R_types (Kd.R_types (Kd.R_types (HO_249001.out) BK243.out (by decide)) BK248.out (by decide)) BK253.out (by decide)))); rintro e w49 ⟨v259, rfl, ho0, hb⟩; refine ⟨_, rfl, ?_⟩; have n0_ := Aside0.mk (Kd.R_below (by (with_reducible repeat (first | apply Kd.R_alloc | apply Kd.R_drewN | apply Kd.R_drew)); exact HO_244001.out) hb); have n1_ := Aside0.mk (Kd.R_below (by (with_reducible repeat (first | apply Kd.R_alloc | apply Kd.R_drewN | apply Kd.R_drew)); exact HO_249001.out) hb); have n2_ := Aside0.mk (Kd.R_below (by (with_reducible repeat (first | apply Kd.R_alloc | apply Kd.R_drewN | apply Kd.R_drew)); exact HO_254001.out) hb); have n3_ := Aside0.mk (Kd.V_lower (Kd.V_mono (ok' := fun k_ => some k_ ≠ (.slice Ao26 t250.length co26 : Value).ownBlock ∧ k_ ≠ gb243 ∧ k_ ≠ gb248 ∧ k_ ≠ gb253) ho0 (fun k_ hk_ => ⟨Or.elim hk_ (fun hs_ => Or.elim hs_ (fun hs_ => ((Kd.R_types (Kd.R_types (Kd.R_types (HO_244001.out) BK243.out (by decide)) BK248.out (by decide)) BK253.out (by decide)).1 k_ hs_.symm).1.1.1.2) (fun hs_ => ((Kd.R_types (Kd.R_types (Kd.R_types (HO_249001.out) BK243.out (by decide)) BK248.out (by decide)) BK253.out (by decide)).1 k_ hs_.symm).1.1.1.2)) (fun hn_ => (Kd.fresh' (Kd.R_lt (by (with_reducible repeat (first | apply Kd.R_alloc | apply Kd.R_drewN | apply Kd.R_drew)); exact HO_254001.out)) k_ hn_)), Or.elim hk_ (fun hs_ => Or.elim hs_ (fun hs_ => ((Kd.R_types (Kd.R_types (Kd.R_types (HO_244001.out) BK243.out (by decide)) BK248.out (by decide)) BK253.out (by decide)).1 k_ hs_.symm).1.1.2) (fun hs_ => ((Kd.R_types (Kd.R_types (Kd.R_types (HO_249001.out) BK243.out (by decide)) BK248.out (by decide)) BK253.out (by decide)).1 k_ hs_.symm).1.1.2)) (fun hn_ => (Kd.freshB (g := gb243) (o := .cells #[.int .i64 t239, .slice Ao15 t240.length co15] 27 (0, 0)) (by (with_reducible repeat (first | refine blk_drewN ?_ _ | refine blk_drew ?_ | refine blk_alloc ?_ _)); exact BK243.out) k_ hn_)), Or.elim hk_ (fun hs_ => Or.elim hs_ (fun hs_ => ((Kd.R_types (Kd.R_types (Kd.R_types (HO_244001.out) BK243.out (by decide)) BK248.out (by decide)) BK253.out (by decide)).1 k_ hs_.symm).1.2) (fun hs_ => ((Kd.R_types (Kd.R_types (Kd.R_types (HO_249001.out) BK243.out (by decide)) BK248.out (by decide)) BK253.out (by decide)).1 k_ hs_.symm).1.2)) (fun hn_ => (Kd.freshB (g := gb248) (o := .cells #[.int .i64 t244, .slice Ao20 t245.length co20] 27 (0, 0)) (by (with_reducible repeat (first | refine blk_drewN ?_ _ | refine blk_drew ?_ | refine blk_alloc ?_ _)); exact BK248.out) k_ hn_)), Or.elim hk_ (fun hs_ => Or.elim hs_ (fun hs_ => ((Kd.R_types (Kd.R_types (Kd.R_types (HO_244001.out) BK243.out (by decide)) BK248.out (by decide)) BK253.out (by decide)).1 k_ hs_.symm).2) (fun hs_ => ((Kd.R_types (Kd.R_types (Kd.R_types (HO_249001.out) BK243.out (by decide)) BK248.out (by decide)) BK253.out (by decide)).1 k_ hs_.symm).2)) (fun hn_ => (Kd.freshB (g := gb253) (o := .cells #[.int .i64 t249, .slice Ao26 t250.length co26] 27 (0, 0)) (by (with_reducible repeat (first | refine blk_drewN ?_ _ | refine blk_drew ?_ | refine blk_alloc ?_ _)); exact BK253.out) k_ hn_))⟩)) (below_size (by repeat (first | (with_reducible first | exact HB.out | apply below_alloc | apply pw_below_drewN | apply below_drew1 | refine below_set ?_ GE243.out | refine below_set ?_ GE248.out | refine below_set ?_ GE253.out) | exact HB.out)))); have n4_ := Aside0.mk (blk_below (g := gb243) (o := .cells #[.int .i64 t239, .slice Ao15 t240.length co15] 27 (0, 0)) (by (with_reducible repeat (first | refine blk_drewN ?_ _ | refine blk_drew ?_ | refine blk_alloc ?_ _)); exact BK243.out) hb); have n5_ := Aside0.mk (blk_below (g := gb248) (o := .cells #[.int .i64 t244, .slice Ao20 t245.length co20] 27 (0, 0)) (by (with_reducible repeat (first | refine blk_drewN ?_ _ | refine blk_drew ?_ | refine blk_alloc ?_ _)); exact BK248.out) hb); have n6_ := Aside0.mk (blk_below (g := gb253) (o := .cells #[.int .i64 t249, .slice Ao26 t250.length co26] 27 (0, 0)) (by (with_reducible repeat (first | refine blk_drewN ?_ _ | refine blk_drew ?_ | refine blk_alloc ?_ _)); exact BK253.out) hb); have n7_ := Aside0.mk (below_step (by repeat (first | (with_reducible first | exact HB.out | apply below_alloc | apply pw_below_drewN | apply below_drew1 | refine below_set ?_ GE243.out | refine below_set ?_ GE248.out | refine below_set ?_ GE253.out) | exact HB.out)) hb); clear HO_244001; clear HO_249001; clear HO_254001; clear BK243; clear BK248; clear BK253; clear HB; have HO_244001 := n0_; have HO_249001 := n1_; have HO_254001 := n2_; have HO260 := n3_; have BK243 := n4_; have BK248 := n5_; have BK253 := n6_; have HB := n7_; clear n0_ n1_ n2_ n3_ n4_ n5_ n6_ n7_; (try clear hb); (try clear hb2); (try clear hk); (try clear hi); (try clear ho0)) | ((with_reducible refine gate_dst (N := 14) rfl ?_); refine box_event ?hg (N := 14) ?hd (cs := #[.int .i64 0, .slice none 0 0]) (t := 27) ?hr ?_; (case hd => rfl); (case hg => rfl); (case hr => first | (go_simp; done) | (go_simp; rfl)); intro gb261 hg w50 hbox hb; have n0_ := Aside0.mk (Kd.R_below (by (with_reducible repeat (first | apply Kd.R_alloc | apply Kd.R_drewN | apply Kd.R_drew)); exact HO_244001.out) hb); have n1_ := Aside0.mk (Kd.R_below (by (with_reducible repeat (first | apply Kd.R_alloc | apply Kd.R_drewN | apply Kd.R_drew)); exact HO_249001.out) hb); have n2_ := Aside0.mk (Kd.R_below (by (with_reducible repeat (first | apply Kd.R_alloc | apply Kd.R_drewN | apply Kd.R_drew)); exact HO_254001.out) hb); have n3_ := Aside0.mk (Kd.V_below (Kd.V_elderB (by (with_reducible repeat (first | apply Kd.V_alloc | apply Kd.V_drewN | apply Kd.V_drew)); exact HO260.out) gb261 (Nat.le_of_eq hg.symm)) hb); have n4_ := Aside0.mk (blk_below (g := gb243) (o := .cells #[.int .i64 t239, .slice Ao15 t240.length co15] 27 (0, 0)) (by (with_reducible repeat (first | refine blk_drewN ?_ _ | refine blk_drew ?_ | refine blk_alloc ?_ _)); exact BK243.out) hb); have n5_ := Aside0.mk (blk_below (g := gb248) (o := .cells #[.int .i64 t244, .slice Ao20 t245.length co20] 27 (0, 0)) (by (with_reducible repeat (first | refine blk_drewN ?_ _ | refine blk_drew ?_ | refine blk_alloc ?_ _)); exact BK248.out) hb); have n6_ := Aside0.mk (blk_below (g := gb253) (o := .cells #[.int .i64 t249, .slice Ao26 t250.length co26] 27 (0, 0)) (by (with_reducible repeat (first | refine blk_drewN ?_ _ | refine blk_drew ?_ | refine blk_alloc ?_ _)); exact BK253.out) hb); have n7_ := Aside0.mk (below_step (by repeat (first | (with_reducible first | exact HB.out | apply below_alloc | apply pw_below_drewN | apply below_drew1 | refine below_set ?_ GE243.out | refine below_set ?_ GE248.out | refine below_set ?_ GE253.out) | exact HB.out)) hb); have n8_ := Aside0.mk (hbox); have n9_ := Aside0.mk ((by rw [hg]; exact (below_size (by repeat (first | (with_reducible first | exact HB.out | apply below_alloc | apply pw_below_drewN | apply below_drew1 | refine below_set ?_ GE243.out | refine below_set ?_ GE248.out | refine below_set ?_ GE253.out) | exact HB.out))) : w.heap.size ≤ gb261)); have n10_ := Aside0.mk ((by rw [hg]; exact (below_size (by repeat (first | (with_reducible first | exact HB.out | apply below_alloc | apply pw_below_drewN | apply below_drew1 | refine below_set ?_ GE243.out | refine below_set ?_ GE248.out | refine below_set ?_ GE253.out) | exact HB.out))) : w.heap.size ≤ gb261)); have n11_ := Aside0.mk ((by rw [hg]; exact Nat.ne_of_lt (blk_lt (g := gb243) (o := .cells #[.int .i64 t239, .slice Ao15 t240.length co15] 27 (0, 0)) (by (with_reducible repeat (first | refine blk_drewN ?_ _ | refine blk_drew ?_ | refine blk_alloc ?_ _)); exact BK243.out)) : gb243 ≠ gb261)); have n12_ := Aside0.mk ((by rw [hg]; exact Nat.ne_of_gt (blk_lt (g := gb243) (o := .cells #[.int .i64 t239, .slice Ao15 t240.length co15] 27 (0, 0)) (by (with_reducible repeat (first | refine blk_drewN ?_ _ | refine blk_drew ?_ | refine blk_alloc ?_ _)); exact BK243.out)) : gb261 ≠ gb243)); have n13_ := Aside0.mk ((by rw [hg]; exact Nat.ne_of_lt (blk_lt (g := gb248) (o := .cells #[.int .i64 t244, .slice Ao20 t245.length co20] 27 (0, 0)) (by (with_reducible repeat (first | refine blk_drewN ?_ _ | refine blk_drew ?_ | refine blk_alloc ?_ _)); exact BK248.out)) : gb248 ≠ gb261)); have n14_ := Aside0.mk ((by rw [hg]; exact Nat.ne_of_gt (blk_lt (g := gb248) (o := .cells #[.int .i64 t244, .slice Ao20 t245.length co20] 27 (0, 0)) (by (with_reducible repeat (first | refine blk_drewN ?_ _ | refine blk_drew ?_ | refine blk_alloc ?_ _)); exact BK248.out)) : gb261 ≠ gb248)); have n15_ := Aside0.mk ((by rw [hg]; exact Nat.ne_of_lt (blk_lt (g := gb253) (o := .cells #[.int .i64 t249, .slice Ao26 t250.length co26] 27 (0, 0)) (by (with_reducible repeat (first | refine blk_drewN ?_ _ | refine blk_drew ?_ | refine blk_alloc ?_ _)); exact BK253.out)) : gb253 ≠ gb261)); have n16_ := Aside0.mk ((by rw [hg]; exact Nat.ne_of_gt (blk_lt (g := gb253) (o := .cells #[.int .i64 t249, .slice Ao26 t250.length co26] 27 (0, 0)) (by (with_reducible repeat (first | refine blk_drewN ?_ _ | refine blk_drew ?_ | refine blk_alloc ?_ _)); exact BK253.out)) : gb261 ≠ gb253)); clear HO_244001; clear HO_249001; clear HO_254001; clear HO260; clear BK243; clear BK248; clear BK253; clear HB; have HO_244001 := n0_; have HO_249001 := n1_; have HO_254001 := n2_; have HO260 := n3_; have BK243 := n4_; have BK248 := n5_; have BK253 := n6_; have HB := n7_; have BK261 := n8_; have GW261 := n9_; have GE261 := n10_; have NB243_261 := n11_; have NB261_243 := n12_; have NB248_261 := n13_; have NB261_248 := n14_; have NB253_261 := n15_; have NB261_253 := n16_; clear n0_ n1_ n2_ n3_ n4_ n5_ n6_ n7_ n8_ n9_ n10_ n11_ n12_ n13_ n14_ n15_ n16_; clear hb hbox hg; have hnb51 := NB261_243.out; have hnc51 := NB243_261.out; have hnb52 := NB261_248.out; have hnc52 := NB248_261.out; have hnb53 := NB261_253.out; have hnc53 := NB253_261.out; have hcz54_0 : w50.cell? ⟨gb261, 0, none⟩ = some (.int .i64 0) := (blk_cell BK261.out 0).trans rfl; have hcz54_1 : w50.cell? ⟨gb261, 1, none⟩ = some (.slice none 0 0) := (blk_cell BK261.out 1).trans rfl; have hfz54_0 := blk_frozen BK261.out 0; have hfz54_1 := blk_frozen BK261.out 1; obtain ⟨Ao55, co55, eo55⟩ := Kd.V_slice HO260.out; subst eo55))
    go_loopg [15] kj9 (fun kq v15 w' => ∃ (x15_2 : Int), v15 = .int .i64 x15_2 ∧ Aside0 (rootcellarlaw9_CellThrough.l0 kq (wrap64 (1 + t238)) x15_2 t239 t240 t244 t245 t249 t250 t257 t258 = some r) ∧ Aside0 (kq ≤ kj9) ∧ Aside0 (Kd.R k51 51 w' w.heap.size (fun k_ => some k_ ≠ ((.slice Ao20 t245.length co20) : Value).ownBlock ∧ some k_ ≠ ((.slice Ao26 t250.length co26) : Value).ownBlock) (.slice Ao15 t240.length co15) t240) ∧ Aside0 (Kd.R k51 51 w' w.heap.size (fun k_ => some k_ ≠ ((.slice Ao15 t240.length co15) : Value).ownBlock ∧ some k_ ≠ ((.slice Ao26 t250.length co26) : Value).ownBlock) (.slice Ao20 t245.length co20) t245) ∧ Aside0 (Kd.R k51 51 w' w.heap.size (fun k_ => some k_ ≠ ((.slice Ao15 t240.length co15) : Value).ownBlock ∧ some k_ ≠ ((.slice Ao20 t245.length co20) : Value).ownBlock) (.slice Ao26 t250.length co26) t250) ∧ Aside0 (Kd.V k51 51 w' w.heap.size (fun k_ => some k_ ≠ ((.slice Ao26 t250.length co26) : Value).ownBlock ∧ k_ ≠ gb243 ∧ k_ ≠ gb248 ∧ k_ ≠ gb253 ∧ k_ ≠ gb261) (.slice Ao55 t258.length co55) t258) ∧ Aside0 (w'.heap[gb243]? = some (.cells #[.int .i64 t239, (.slice Ao15 t240.length co15)] 27 (0, 0))) ∧ Aside0 (w'.heap[gb248]? = some (.cells #[.int .i64 t244, (.slice Ao20 t245.length co20)] 27 (0, 0))) ∧ Aside0 (w'.heap[gb253]? = some (.cells #[.int .i64 t249, (.slice Ao26 t250.length co26)] 27 (0, 0))) ∧ Aside0 (w'.heap[gb261]? = some (.cells #[.int .i64 t257, (.slice Ao55 t258.length co55)] 27 (0, 0))) ∧ Aside0 (Below w.heap.size w w'))
    case atStart => exact ⟨(0), (by first | rfl | (simp; done) | (simp [*]; done)), H', ⟨Nat.le_refl _⟩, ⟨by (with_reducible repeat (first | apply Kd.R_alloc | apply Kd.R_drewN | apply Kd.R_drew)); exact Kd.R_mono (Kd.R_far (p := ⟨gb261, 1, none⟩) (Kd.R_far (p := ⟨gb261, 0, none⟩) (Kd.R_types HO_244001.out BK261.out (by decide)) (fun _ hk => hk.2) (.int .i64 t257)) (fun _ hk => hk.2) (.slice Ao55 t258.length co55)) (fun _ hk => ⟨hk.1.1, hk.1.2⟩)⟩, ⟨by (with_reducible repeat (first | apply Kd.R_alloc | apply Kd.R_drewN | apply Kd.R_drew)); exact Kd.R_mono (Kd.R_far (p := ⟨gb261, 1, none⟩) (Kd.R_far (p := ⟨gb261, 0, none⟩) (Kd.R_types HO_249001.out BK261.out (by decide)) (fun _ hk => hk.2) (.int .i64 t257)) (fun _ hk => hk.2) (.slice Ao55 t258.length co55)) (fun _ hk => ⟨hk.1.1, hk.1.2⟩)⟩, ⟨by (with_reducible repeat (first | apply Kd.R_alloc | apply Kd.R_drewN | apply Kd.R_drew)); exact Kd.R_mono (Kd.R_far (p := ⟨gb261, 1, none⟩) (Kd.R_far (p := ⟨gb261, 0, none⟩) (Kd.R_types HO_254001.out BK261.out (by decide)) (fun _ hk => hk.2) (.int .i64 t257)) (fun _ hk => hk.2) (.slice Ao55 t258.length co55)) (fun _ hk => ⟨hk.1.1, hk.1.2⟩)⟩, ⟨by (with_reducible repeat (first | apply Kd.V_alloc | apply Kd.V_drewN | apply Kd.V_drew)); exact Kd.V_mono (Kd.V_far (p := ⟨gb261, 1, none⟩) (Kd.V_far (p := ⟨gb261, 0, none⟩) (Kd.V_mono HO260.out (fun k_ hk => (⟨hk, hk.2⟩ : _ ∧ k_ ≠ gb261))) (fun _ hk => hk.2) (.int .i64 t257)) (fun _ hk => hk.2) (.slice Ao55 t258.length co55)) (fun _ hk => ⟨hk.1.1.1, ⟨hk.1.1.2.1, ⟨hk.1.1.2.2.1, ⟨hk.1.1.2.2.2, hk.1.2⟩⟩⟩⟩)⟩, ⟨by (with_reducible repeat (first | refine blk_drewN ?_ _ | refine blk_drew ?_ | refine blk_alloc ?_ _)); refine blk_far ?_ NB243_261.out _; (with_reducible repeat (first | refine blk_drewN ?_ _ | refine blk_drew ?_ | refine blk_alloc ?_ _)); refine blk_far ?_ NB243_261.out _; (with_reducible repeat (first | refine blk_drewN ?_ _ | refine blk_drew ?_ | refine blk_alloc ?_ _)); exact BK243.out⟩, ⟨by (with_reducible repeat (first | refine blk_drewN ?_ _ | refine blk_drew ?_ | refine blk_alloc ?_ _)); refine blk_far ?_ NB248_261.out _; (with_reducible repeat (first | refine blk_drewN ?_ _ | refine blk_drew ?_ | refine blk_alloc ?_ _)); refine blk_far ?_ NB248_261.out _; (with_reducible repeat (first | refine blk_drewN ?_ _ | refine blk_drew ?_ | refine blk_alloc ?_ _)); exact BK248.out⟩, ⟨by (with_reducible repeat (first | refine blk_drewN ?_ _ | refine blk_drew ?_ | refine blk_alloc ?_ _)); refine blk_far ?_ NB253_261.out _; (with_reducible repeat (first | refine blk_drewN ?_ _ | refine blk_drew ?_ | refine blk_alloc ?_ _)); refine blk_far ?_ NB253_261.out _; (with_reducible repeat (first | refine blk_drewN ?_ _ | refine blk_drew ?_ | refine blk_alloc ?_ _)); exact BK253.out⟩, ⟨by (with_reducible repeat (first | refine blk_drewN ?_ _ | refine blk_drew ?_ | refine blk_alloc ?_ _)); refine blk_put (cs := #[.int .i64 t257, .slice none 0 0]) ?_ 1 _ rfl; (with_reducible repeat (first | refine blk_drewN ?_ _ | refine blk_drew ?_ | refine blk_alloc ?_ _)); refine blk_put (cs := #[.int .i64 0, .slice none 0 0]) ?_ 0 _ rfl; (with_reducible repeat (first | refine blk_drewN ?_ _ | refine blk_drew ?_ | refine blk_alloc ?_ _)); exact BK261.out⟩, ⟨by repeat (first | (with_reducible first | exact HB.out | apply below_alloc | apply pw_below_drewN | apply below_drew1 | refine below_set ?_ GE243.out | refine below_set ?_ GE248.out | refine below_set ?_ GE253.out | refine below_set ?_ GE261.out) | exact HB.out)⟩⟩
    case round =>
     clear H'
     try clear c1
     try clear c2
     try clear p2
     try clear c3
     try clear c4
     try clear c5
     try clear p6
     try clear c8
     try clear c9
     try clear c10
     try clear c17
     try clear c18
     try clear c23
     try clear c24
     try clear c27
     try clear c29
     try clear c31
     try clear c33
     try clear c34
     try clear c37
     try clear c42
     try clear c44
     try clear c45
     try clear c47
     try clear c51
     try clear c52
     try clear c53
     try clear hcz14_0
     try clear hcz14_1
     try clear hcz19_0
     try clear hcz19_1
     try clear hcz25_0
     try clear hcz25_1
     try clear hcz35_0
     try clear hcz35_1
     try clear hcz38_0
     try clear hcz38_1
     try clear hcz40_0
     try clear hcz40_1
     try clear hcz46_0
     try clear hcz46_1
     try clear hcz48_0
     try clear hcz48_1
     try clear hcz54_0
     try clear hcz54_1
     try clear hfz14_0
     try clear hfz14_1
     try clear hfz19_0
     try clear hfz19_1
     try clear hfz25_0
     try clear hfz25_1
     try clear hfz35_0
     try clear hfz35_1
     try clear hfz38_0
     try clear hfz38_1
     try clear hfz40_0
     try clear hfz40_1
     try clear hfz46_0
     try clear hfz46_1
     try clear hfz48_0
     try clear hfz48_1
     try clear hfz54_0
     try clear hfz54_1
     try clear p2
     try clear p6
     obtain ⟨x15_2, rfl, HA, HK2, HO_244001, HO_249001, HO_254001, HO_262001, BK243, BK248, BK253, BK261, HB⟩ := hrel
     cases gk with
     | zero => exact absurd HA.out (by simp [rootcellarlaw9_CellThrough.l0])
     | succ k2 =>
      have H := HA.out
      clear HA
      simp only [rootcellarlaw9_CellThrough.l0] at H
      by_cases c56 : x15_2 < (wrap64 (1 + t238))
      ·rw [if_pos c56] at H
       have c56b0 : decide (x15_2 < (wrap64 (1 + t238))) = true := decide_eq_true c56
       clear c56
       replace H := Option.bind_eq_some_iff.mp H
       obtain ⟨⟨t262, t263⟩, A570, H⟩ := H
       replace H : ((cell_Get.f t239 t240 x15_2).bind fun bt264 => (if bt264.2 = true then (if t262.toList = bt264.1.toList then (if (t263 != bt264.2) = true then (none) else (rootcellarlaw9_CellThrough.l0 k2 (wrap64 (1 + t238)) (wrap64 (x15_2 + 1)) t239 t240 t244 t245 t249 t250 t257 t258)) else (none)) else ((cell_Get.f t244 t245 x15_2).bind fun bt266 => (if t262.toList = bt266.1.toList then (if (t263 != bt266.2) = true then (none) else (rootcellarlaw9_CellThrough.l0 k2 (wrap64 (1 + t238)) (wrap64 (x15_2 + 1)) t239 t240 t244 t245 t249 t250 t257 t258)) else (none))))) = some r := H
       have A57 := Aside0.mk A570
       clear A570
       replace H := Option.bind_eq_some_iff.mp H
       obtain ⟨⟨t264, t265⟩, A580, H⟩ := H
       replace H : (if t265 = true then (if t262.toList = t264.toList then (if (t263 != t265) = true then (none) else (rootcellarlaw9_CellThrough.l0 k2 (wrap64 (1 + t238)) (wrap64 (x15_2 + 1)) t239 t240 t244 t245 t249 t250 t257 t258)) else (none)) else ((cell_Get.f t244 t245 x15_2).bind fun bt266 => (if t262.toList = bt266.1.toList then (if (t263 != bt266.2) = true then (none) else (rootcellarlaw9_CellThrough.l0 k2 (wrap64 (1 + t238)) (wrap64 (x15_2 + 1)) t239 t240 t244 t245 t249 t250 t257 t258)) else (none)))) = some r := H
       have A58 := Aside0.mk A580
       clear A580
       by_cases c59 : t265 = true
       ·subst c59
        have H1 : (if t262.toList = t264.toList then (if (t263 != true) = true then (none) else (rootcellarlaw9_CellThrough.l0 k2 (wrap64 (1 + t238)) (wrap64 (x15_2 + 1)) t239 t240 t244 t245 t249 t250 t257 t258)) else (none)) = some r := by rw [if_pos rfl] at H; exact H
        clear H
        have H := H1
        clear H1
        by_cases c60 : t262.toList = t264.toList
        ·rw [if_pos c60] at H
         have c60b0 : (t262.toList == t264.toList) = true := beq_iff_eq.mpr c60
         have c60b1 : (t262.toList != t264.toList) = false := bne_eq_false_iff_eq.mpr c60
         clear c60
         by_cases c61 : (t263 != true) = true
         ·rw [if_pos c61] at H
          exact absurd H (by simp)
         ·rw [if_neg c61] at H
          have c61b0 : (t263 != true) = false := by simpa using c61
          (try (have c61b1 : decide (t263 = true) = true := by simpa using c61))
          (try (have c61b2 : (t263 == true) = true := by simpa using c61))
          clear c61
          have H' := Aside0.mk H
          clear H
          have hnb62 := NB261_243.out
          have hnc62 := NB243_261.out
          have hnb63 := NB261_248.out
          have hnc63 := NB248_261.out
          have hnb64 := NB261_253.out
          have hnc64 := NB253_261.out
          have hcz65_0 : wr.cell? ⟨gb261, 0, none⟩ = some (.int .i64 t257) := (blk_cell BK261.out 0).trans rfl
          have hcz65_1 : wr.cell? ⟨gb261, 1, none⟩ = some (.slice Ao55 t258.length co55) := (blk_cell BK261.out 1).trans rfl
          have hfz65_0 := blk_frozen BK261.out 0
          have hfz65_1 := blk_frozen BK261.out 1
          go_wp2_with (first | ((with_reducible refine gate_callee (f := 13) rfl ?_); refine goesL_ (some 63) rfl rfl Try.func13 (by kernel_rfl) rfl #[.agg #[.int .i64 t257, .slice Ao55 t258.length co55], .int .i64 x15_2] rfl (by (try simp only [List.map_toArray, List.map_cons, List.map_nil]); first | done | rfl | (simp only [List.length_drop, List.length_take]; rfl)) ?_; (with_reducible refine (cell_Get.calls t257 _ _ t258 x15_2 t262 t263 _ ?side1 ?side2 A57.out).mono ?_); (case side1 => repeat (first | exact (Kd.V_reads' HO_262001.out).2.2 | (with_reducible refine Kd.C_alloc ?_ _) | (with_reducible refine Kd.C_drewN ?_ _) | (with_reducible refine Kd.C_drew ?_))); (case side2 => exact (Kd.V_reads' HO_262001.out).2.1); rintro e w66 ⟨rfl, hb⟩; refine ⟨_, rfl, ?_⟩; have n0_ := Aside0.mk (Kd.R_below (by (with_reducible repeat (first | apply Kd.R_alloc | apply Kd.R_drewN | apply Kd.R_drew)); exact HO_244001.out) hb); have n1_ := Aside0.mk (Kd.R_below (by (with_reducible repeat (first | apply Kd.R_alloc | apply Kd.R_drewN | apply Kd.R_drew)); exact HO_249001.out) hb); have n2_ := Aside0.mk (Kd.R_below (by (with_reducible repeat (first | apply Kd.R_alloc | apply Kd.R_drewN | apply Kd.R_drew)); exact HO_254001.out) hb); have n3_ := Aside0.mk (Kd.V_below (by (with_reducible repeat (first | apply Kd.V_alloc | apply Kd.V_drewN | apply Kd.V_drew)); exact HO_262001.out) hb); have n4_ := Aside0.mk (blk_below (g := gb243) (o := .cells #[.int .i64 t239, .slice Ao15 t240.length co15] 27 (0, 0)) (by (with_reducible repeat (first | refine blk_drewN ?_ _ | refine blk_drew ?_ | refine blk_alloc ?_ _)); exact BK243.out) hb); have n5_ := Aside0.mk (blk_below (g := gb248) (o := .cells #[.int .i64 t244, .slice Ao20 t245.length co20] 27 (0, 0)) (by (with_reducible repeat (first | refine blk_drewN ?_ _ | refine blk_drew ?_ | refine blk_alloc ?_ _)); exact BK248.out) hb); have n6_ := Aside0.mk (blk_below (g := gb253) (o := .cells #[.int .i64 t249, .slice Ao26 t250.length co26] 27 (0, 0)) (by (with_reducible repeat (first | refine blk_drewN ?_ _ | refine blk_drew ?_ | refine blk_alloc ?_ _)); exact BK253.out) hb); have n7_ := Aside0.mk (blk_below (g := gb261) (o := .cells #[.int .i64 t257, .slice Ao55 t258.length co55] 27 (0, 0)) (by (with_reducible repeat (first | refine blk_drewN ?_ _ | refine blk_drew ?_ | refine blk_alloc ?_ _)); exact BK261.out) hb); have n8_ := Aside0.mk (below_step (by repeat (first | (with_reducible first | exact HB.out | apply below_alloc | apply pw_below_drewN | apply below_drew1 | refine below_set ?_ GE243.out | refine below_set ?_ GE248.out | refine below_set ?_ GE253.out | refine below_set ?_ GE261.out) | exact HB.out)) hb); clear HO_244001; clear HO_249001; clear HO_254001; clear HO_262001; clear BK243; clear BK248; clear BK253; clear BK261; clear HB; have HO_244001 := n0_; have HO_249001 := n1_; have HO_254001 := n2_; have HO_262001 := n3_; have BK243 := n4_; have BK248 := n5_; have BK253 := n6_; have BK261 := n7_; have HB := n8_; clear n0_ n1_ n2_ n3_ n4_ n5_ n6_ n7_ n8_; (try clear hb); (try clear hb2); (try clear hk); (try clear hi); have hnb67 := NB243_248.out; have hnc67 := NB248_243.out; have hnb68 := NB243_253.out; have hnc68 := NB253_243.out; have hcz69_0 : w66.cell? ⟨gb243, 0, none⟩ = some (.int .i64 t239) := (blk_cell BK243.out 0).trans rfl; have hcz69_1 : w66.cell? ⟨gb243, 1, none⟩ = some (.slice Ao15 t240.length co15) := (blk_cell BK243.out 1).trans rfl; have hfz69_0 := blk_frozen BK243.out 0; have hfz69_1 := blk_frozen BK243.out 1) | ((with_reducible refine gate_callee (f := 13) rfl ?_); refine goesL_ (some 69) rfl rfl Try.func13 (by kernel_rfl) rfl #[.agg #[.int .i64 t239, .slice Ao15 t240.length co15], .int .i64 x15_2] rfl (by (try simp only [List.map_toArray, List.map_cons, List.map_nil]); first | done | rfl | (simp only [List.length_drop, List.length_take]; rfl)) ?_; (with_reducible refine (cell_Get.calls t239 _ _ t240 x15_2 t264 true _ ?side1 ?side2 A58.out).mono ?_); (case side1 => repeat (first | exact (Kd.R_reads' HO_244001.out).2.2 | (with_reducible refine Kd.C_alloc ?_ _) | (with_reducible refine Kd.C_drewN ?_ _) | (with_reducible refine Kd.C_drew ?_))); (case side2 => exact (Kd.R_reads' HO_244001.out).2.1); rintro e w70 ⟨rfl, hb⟩; refine ⟨_, rfl, ?_⟩; have n0_ := Aside0.mk (Kd.R_below (by (with_reducible repeat (first | apply Kd.R_alloc | apply Kd.R_drewN | apply Kd.R_drew)); exact HO_244001.out) hb); have n1_ := Aside0.mk (Kd.R_below (by (with_reducible repeat (first | apply Kd.R_alloc | apply Kd.R_drewN | apply Kd.R_drew)); exact HO_249001.out) hb); have n2_ := Aside0.mk (Kd.R_below (by (with_reducible repeat (first | apply Kd.R_alloc | apply Kd.R_drewN | apply Kd.R_drew)); exact HO_254001.out) hb); have n3_ := Aside0.mk (Kd.V_below (by (with_reducible repeat (first | apply Kd.V_alloc | apply Kd.V_drewN | apply Kd.V_drew)); exact HO_262001.out) hb); have n4_ := Aside0.mk (blk_below (g := gb243) (o := .cells #[.int .i64 t239, .slice Ao15 t240.length co15] 27 (0, 0)) (by (with_reducible repeat (first | refine blk_drewN ?_ _ | refine blk_drew ?_ | refine blk_alloc ?_ _)); exact BK243.out) hb); have n5_ := Aside0.mk (blk_below (g := gb248) (o := .cells #[.int .i64 t244, .slice Ao20 t245.length co20] 27 (0, 0)) (by (with_reducible repeat (first | refine blk_drewN ?_ _ | refine blk_drew ?_ | refine blk_alloc ?_ _)); exact BK248.out) hb); have n6_ := Aside0.mk (blk_below (g := gb253) (o := .cells #[.int .i64 t249, .slice Ao26 t250.length co26] 27 (0, 0)) (by (with_reducible repeat (first | refine blk_drewN ?_ _ | refine blk_drew ?_ | refine blk_alloc ?_ _)); exact BK253.out) hb); have n7_ := Aside0.mk (blk_below (g := gb261) (o := .cells #[.int .i64 t257, .slice Ao55 t258.length co55] 27 (0, 0)) (by (with_reducible repeat (first | refine blk_drewN ?_ _ | refine blk_drew ?_ | refine blk_alloc ?_ _)); exact BK261.out) hb); have n8_ := Aside0.mk (below_step (by repeat (first | (with_reducible first | exact HB.out | apply below_alloc | apply pw_below_drewN | apply below_drew1 | refine below_set ?_ GE243.out | refine below_set ?_ GE248.out | refine below_set ?_ GE253.out | refine below_set ?_ GE261.out) | exact HB.out)) hb); clear HO_244001; clear HO_249001; clear HO_254001; clear HO_262001; clear BK243; clear BK248; clear BK253; clear BK261; clear HB; have HO_244001 := n0_; have HO_249001 := n1_; have HO_254001 := n2_; have HO_262001 := n3_; have BK243 := n4_; have BK248 := n5_; have BK253 := n6_; have BK261 := n7_; have HB := n8_; clear n0_ n1_ n2_ n3_ n4_ n5_ n6_ n7_ n8_; (try clear hb); (try clear hb2); (try clear hk); (try clear hi)))
          go_roundg k2
          case measure => have := HJ9.out; have := HK2.out; omega
          case rel => exact ⟨(wrap64 (x15_2 + 1)), (by first | rfl | (simp; done) | (simp [*]; done)), H', ⟨by have := HJ9.out; have := HK2.out; omega⟩, ⟨by (with_reducible repeat (first | apply Kd.R_alloc | apply Kd.R_drewN | apply Kd.R_drew)); exact HO_244001.out⟩, ⟨by (with_reducible repeat (first | apply Kd.R_alloc | apply Kd.R_drewN | apply Kd.R_drew)); exact HO_249001.out⟩, ⟨by (with_reducible repeat (first | apply Kd.R_alloc | apply Kd.R_drewN | apply Kd.R_drew)); exact HO_254001.out⟩, ⟨by (with_reducible repeat (first | apply Kd.V_alloc | apply Kd.V_drewN | apply Kd.V_drew)); exact HO_262001.out⟩, ⟨by (with_reducible repeat (first | refine blk_drewN ?_ _ | refine blk_drew ?_ | refine blk_alloc ?_ _)); exact BK243.out⟩, ⟨by (with_reducible repeat (first | refine blk_drewN ?_ _ | refine blk_drew ?_ | refine blk_alloc ?_ _)); exact BK248.out⟩, ⟨by (with_reducible repeat (first | refine blk_drewN ?_ _ | refine blk_drew ?_ | refine blk_alloc ?_ _)); exact BK253.out⟩, ⟨by (with_reducible repeat (first | refine blk_drewN ?_ _ | refine blk_drew ?_ | refine blk_alloc ?_ _)); exact BK261.out⟩, ⟨by repeat (first | (with_reducible first | exact HB.out | apply below_alloc | apply pw_below_drewN | apply below_drew1 | refine below_set ?_ GE243.out | refine below_set ?_ GE248.out | refine below_set ?_ GE253.out | refine below_set ?_ GE261.out) | exact HB.out)⟩⟩
        ·rw [if_neg c60] at H
         exact absurd H (by simp)
       ·replace c59 := Bool.eq_false_iff.mpr c59
        subst c59
        have H1 : ((cell_Get.f t244 t245 x15_2).bind fun bt266 => (if t262.toList = bt266.1.toList then (if (t263 != bt266.2) = true then (none) else (rootcellarlaw9_CellThrough.l0 k2 (wrap64 (1 + t238)) (wrap64 (x15_2 + 1)) t239 t240 t244 t245 t249 t250 t257 t258)) else (none))) = some r := by rw [if_neg (show ¬ (false = true) by decide)] at H; exact H
        clear H
        have H := H1
        clear H1
        replace H := Option.bind_eq_some_iff.mp H
        obtain ⟨⟨t266, t267⟩, A710, H⟩ := H
        replace H : (if t262.toList = t266.toList then (if (t263 != t267) = true then (none) else (rootcellarlaw9_CellThrough.l0 k2 (wrap64 (1 + t238)) (wrap64 (x15_2 + 1)) t239 t240 t244 t245 t249 t250 t257 t258)) else (none)) = some r := H
        have A71 := Aside0.mk A710
        clear A710
        by_cases c72 : t262.toList = t266.toList
        ·rw [if_pos c72] at H
         have c72b0 : (t262.toList == t266.toList) = true := beq_iff_eq.mpr c72
         have c72b1 : (t262.toList != t266.toList) = false := bne_eq_false_iff_eq.mpr c72
         clear c72
         by_cases c73 : (t263 != t267) = true
         ·rw [if_pos c73] at H
          exact absurd H (by simp)
         ·rw [if_neg c73] at H
          have c73b0 : (t263 != t267) = false := by simpa using c73
          (try (have c73b1 : decide (t263 = t267) = true := by simpa using c73))
          (try (have c73b2 : (t263 == t267) = true := by simpa using c73))
          clear c73
          have H' := Aside0.mk H
          clear H
          have hnb74 := NB261_243.out
          have hnc74 := NB243_261.out
          have hnb75 := NB261_248.out
          have hnc75 := NB248_261.out
          have hnb76 := NB261_253.out
          have hnc76 := NB253_261.out
          have hcz77_0 : wr.cell? ⟨gb261, 0, none⟩ = some (.int .i64 t257) := (blk_cell BK261.out 0).trans rfl
          have hcz77_1 : wr.cell? ⟨gb261, 1, none⟩ = some (.slice Ao55 t258.length co55) := (blk_cell BK261.out 1).trans rfl
          have hfz77_0 := blk_frozen BK261.out 0
          have hfz77_1 := blk_frozen BK261.out 1
          go_wp2_with (first | ((with_reducible refine gate_callee (f := 13) rfl ?_); refine goesL_ (some 63) rfl rfl Try.func13 (by kernel_rfl) rfl #[.agg #[.int .i64 t257, .slice Ao55 t258.length co55], .int .i64 x15_2] rfl (by (try simp only [List.map_toArray, List.map_cons, List.map_nil]); first | done | rfl | (simp only [List.length_drop, List.length_take]; rfl)) ?_; (with_reducible refine (cell_Get.calls t257 _ _ t258 x15_2 t262 t263 _ ?side1 ?side2 A57.out).mono ?_); (case side1 => repeat (first | exact (Kd.V_reads' HO_262001.out).2.2 | (with_reducible refine Kd.C_alloc ?_ _) | (with_reducible refine Kd.C_drewN ?_ _) | (with_reducible refine Kd.C_drew ?_))); (case side2 => exact (Kd.V_reads' HO_262001.out).2.1); rintro e w78 ⟨rfl, hb⟩; refine ⟨_, rfl, ?_⟩; have n0_ := Aside0.mk (Kd.R_below (by (with_reducible repeat (first | apply Kd.R_alloc | apply Kd.R_drewN | apply Kd.R_drew)); exact HO_244001.out) hb); have n1_ := Aside0.mk (Kd.R_below (by (with_reducible repeat (first | apply Kd.R_alloc | apply Kd.R_drewN | apply Kd.R_drew)); exact HO_249001.out) hb); have n2_ := Aside0.mk (Kd.R_below (by (with_reducible repeat (first | apply Kd.R_alloc | apply Kd.R_drewN | apply Kd.R_drew)); exact HO_254001.out) hb); have n3_ := Aside0.mk (Kd.V_below (by (with_reducible repeat (first | apply Kd.V_alloc | apply Kd.V_drewN | apply Kd.V_drew)); exact HO_262001.out) hb); have n4_ := Aside0.mk (blk_below (g := gb243) (o := .cells #[.int .i64 t239, .slice Ao15 t240.length co15] 27 (0, 0)) (by (with_reducible repeat (first | refine blk_drewN ?_ _ | refine blk_drew ?_ | refine blk_alloc ?_ _)); exact BK243.out) hb); have n5_ := Aside0.mk (blk_below (g := gb248) (o := .cells #[.int .i64 t244, .slice Ao20 t245.length co20] 27 (0, 0)) (by (with_reducible repeat (first | refine blk_drewN ?_ _ | refine blk_drew ?_ | refine blk_alloc ?_ _)); exact BK248.out) hb); have n6_ := Aside0.mk (blk_below (g := gb253) (o := .cells #[.int .i64 t249, .slice Ao26 t250.length co26] 27 (0, 0)) (by (with_reducible repeat (first | refine blk_drewN ?_ _ | refine blk_drew ?_ | refine blk_alloc ?_ _)); exact BK253.out) hb); have n7_ := Aside0.mk (blk_below (g := gb261) (o := .cells #[.int .i64 t257, .slice Ao55 t258.length co55] 27 (0, 0)) (by (with_reducible repeat (first | refine blk_drewN ?_ _ | refine blk_drew ?_ | refine blk_alloc ?_ _)); exact BK261.out) hb); have n8_ := Aside0.mk (below_step (by repeat (first | (with_reducible first | exact HB.out | apply below_alloc | apply pw_below_drewN | apply below_drew1 | refine below_set ?_ GE243.out | refine below_set ?_ GE248.out | refine below_set ?_ GE253.out | refine below_set ?_ GE261.out) | exact HB.out)) hb); clear HO_244001; clear HO_249001; clear HO_254001; clear HO_262001; clear BK243; clear BK248; clear BK253; clear BK261; clear HB; have HO_244001 := n0_; have HO_249001 := n1_; have HO_254001 := n2_; have HO_262001 := n3_; have BK243 := n4_; have BK248 := n5_; have BK253 := n6_; have BK261 := n7_; have HB := n8_; clear n0_ n1_ n2_ n3_ n4_ n5_ n6_ n7_ n8_; (try clear hb); (try clear hb2); (try clear hk); (try clear hi); have hnb79 := NB243_248.out; have hnc79 := NB248_243.out; have hnb80 := NB243_253.out; have hnc80 := NB253_243.out; have hcz81_0 : w78.cell? ⟨gb243, 0, none⟩ = some (.int .i64 t239) := (blk_cell BK243.out 0).trans rfl; have hcz81_1 : w78.cell? ⟨gb243, 1, none⟩ = some (.slice Ao15 t240.length co15) := (blk_cell BK243.out 1).trans rfl; have hfz81_0 := blk_frozen BK243.out 0; have hfz81_1 := blk_frozen BK243.out 1) | ((with_reducible refine gate_callee (f := 13) rfl ?_); refine goesL_ (some 69) rfl rfl Try.func13 (by kernel_rfl) rfl #[.agg #[.int .i64 t239, .slice Ao15 t240.length co15], .int .i64 x15_2] rfl (by (try simp only [List.map_toArray, List.map_cons, List.map_nil]); first | done | rfl | (simp only [List.length_drop, List.length_take]; rfl)) ?_; (with_reducible refine (cell_Get.calls t239 _ _ t240 x15_2 t264 false _ ?side1 ?side2 A58.out).mono ?_); (case side1 => repeat (first | exact (Kd.R_reads' HO_244001.out).2.2 | (with_reducible refine Kd.C_alloc ?_ _) | (with_reducible refine Kd.C_drewN ?_ _) | (with_reducible refine Kd.C_drew ?_))); (case side2 => exact (Kd.R_reads' HO_244001.out).2.1); rintro e w82 ⟨rfl, hb⟩; refine ⟨_, rfl, ?_⟩; have n0_ := Aside0.mk (Kd.R_below (by (with_reducible repeat (first | apply Kd.R_alloc | apply Kd.R_drewN | apply Kd.R_drew)); exact HO_244001.out) hb); have n1_ := Aside0.mk (Kd.R_below (by (with_reducible repeat (first | apply Kd.R_alloc | apply Kd.R_drewN | apply Kd.R_drew)); exact HO_249001.out) hb); have n2_ := Aside0.mk (Kd.R_below (by (with_reducible repeat (first | apply Kd.R_alloc | apply Kd.R_drewN | apply Kd.R_drew)); exact HO_254001.out) hb); have n3_ := Aside0.mk (Kd.V_below (by (with_reducible repeat (first | apply Kd.V_alloc | apply Kd.V_drewN | apply Kd.V_drew)); exact HO_262001.out) hb); have n4_ := Aside0.mk (blk_below (g := gb243) (o := .cells #[.int .i64 t239, .slice Ao15 t240.length co15] 27 (0, 0)) (by (with_reducible repeat (first | refine blk_drewN ?_ _ | refine blk_drew ?_ | refine blk_alloc ?_ _)); exact BK243.out) hb); have n5_ := Aside0.mk (blk_below (g := gb248) (o := .cells #[.int .i64 t244, .slice Ao20 t245.length co20] 27 (0, 0)) (by (with_reducible repeat (first | refine blk_drewN ?_ _ | refine blk_drew ?_ | refine blk_alloc ?_ _)); exact BK248.out) hb); have n6_ := Aside0.mk (blk_below (g := gb253) (o := .cells #[.int .i64 t249, .slice Ao26 t250.length co26] 27 (0, 0)) (by (with_reducible repeat (first | refine blk_drewN ?_ _ | refine blk_drew ?_ | refine blk_alloc ?_ _)); exact BK253.out) hb); have n7_ := Aside0.mk (blk_below (g := gb261) (o := .cells #[.int .i64 t257, .slice Ao55 t258.length co55] 27 (0, 0)) (by (with_reducible repeat (first | refine blk_drewN ?_ _ | refine blk_drew ?_ | refine blk_alloc ?_ _)); exact BK261.out) hb); have n8_ := Aside0.mk (below_step (by repeat (first | (with_reducible first | exact HB.out | apply below_alloc | apply pw_below_drewN | apply below_drew1 | refine below_set ?_ GE243.out | refine below_set ?_ GE248.out | refine below_set ?_ GE253.out | refine below_set ?_ GE261.out) | exact HB.out)) hb); clear HO_244001; clear HO_249001; clear HO_254001; clear HO_262001; clear BK243; clear BK248; clear BK253; clear BK261; clear HB; have HO_244001 := n0_; have HO_249001 := n1_; have HO_254001 := n2_; have HO_262001 := n3_; have BK243 := n4_; have BK248 := n5_; have BK253 := n6_; have BK261 := n7_; have HB := n8_; clear n0_ n1_ n2_ n3_ n4_ n5_ n6_ n7_ n8_; (try clear hb); (try clear hb2); (try clear hk); (try clear hi); have hnb83 := NB248_253.out; have hnc83 := NB253_248.out; have hcz84_0 : w82.cell? ⟨gb248, 0, none⟩ = some (.int .i64 t244) := (blk_cell BK248.out 0).trans rfl; have hcz84_1 : w82.cell? ⟨gb248, 1, none⟩ = some (.slice Ao20 t245.length co20) := (blk_cell BK248.out 1).trans rfl; have hfz84_0 := blk_frozen BK248.out 0; have hfz84_1 := blk_frozen BK248.out 1) | ((with_reducible refine gate_callee (f := 13) rfl ?_); refine goesL_ (some 77) rfl rfl Try.func13 (by kernel_rfl) rfl #[.agg #[.int .i64 t244, .slice Ao20 t245.length co20], .int .i64 x15_2] rfl (by (try simp only [List.map_toArray, List.map_cons, List.map_nil]); first | done | rfl | (simp only [List.length_drop, List.length_take]; rfl)) ?_; (with_reducible refine (cell_Get.calls t244 _ _ t245 x15_2 t266 t267 _ ?side1 ?side2 A71.out).mono ?_); (case side1 => repeat (first | exact (Kd.R_reads' HO_249001.out).2.2 | (with_reducible refine Kd.C_alloc ?_ _) | (with_reducible refine Kd.C_drewN ?_ _) | (with_reducible refine Kd.C_drew ?_))); (case side2 => exact (Kd.R_reads' HO_249001.out).2.1); rintro e w85 ⟨rfl, hb⟩; refine ⟨_, rfl, ?_⟩; have n0_ := Aside0.mk (Kd.R_below (by (with_reducible repeat (first | apply Kd.R_alloc | apply Kd.R_drewN | apply Kd.R_drew)); exact HO_244001.out) hb); have n1_ := Aside0.mk (Kd.R_below (by (with_reducible repeat (first | apply Kd.R_alloc | apply Kd.R_drewN | apply Kd.R_drew)); exact HO_249001.out) hb); have n2_ := Aside0.mk (Kd.R_below (by (with_reducible repeat (first | apply Kd.R_alloc | apply Kd.R_drewN | apply Kd.R_drew)); exact HO_254001.out) hb); have n3_ := Aside0.mk (Kd.V_below (by (with_reducible repeat (first | apply Kd.V_alloc | apply Kd.V_drewN | apply Kd.V_drew)); exact HO_262001.out) hb); have n4_ := Aside0.mk (blk_below (g := gb243) (o := .cells #[.int .i64 t239, .slice Ao15 t240.length co15] 27 (0, 0)) (by (with_reducible repeat (first | refine blk_drewN ?_ _ | refine blk_drew ?_ | refine blk_alloc ?_ _)); exact BK243.out) hb); have n5_ := Aside0.mk (blk_below (g := gb248) (o := .cells #[.int .i64 t244, .slice Ao20 t245.length co20] 27 (0, 0)) (by (with_reducible repeat (first | refine blk_drewN ?_ _ | refine blk_drew ?_ | refine blk_alloc ?_ _)); exact BK248.out) hb); have n6_ := Aside0.mk (blk_below (g := gb253) (o := .cells #[.int .i64 t249, .slice Ao26 t250.length co26] 27 (0, 0)) (by (with_reducible repeat (first | refine blk_drewN ?_ _ | refine blk_drew ?_ | refine blk_alloc ?_ _)); exact BK253.out) hb); have n7_ := Aside0.mk (blk_below (g := gb261) (o := .cells #[.int .i64 t257, .slice Ao55 t258.length co55] 27 (0, 0)) (by (with_reducible repeat (first | refine blk_drewN ?_ _ | refine blk_drew ?_ | refine blk_alloc ?_ _)); exact BK261.out) hb); have n8_ := Aside0.mk (below_step (by repeat (first | (with_reducible first | exact HB.out | apply below_alloc | apply pw_below_drewN | apply below_drew1 | refine below_set ?_ GE243.out | refine below_set ?_ GE248.out | refine below_set ?_ GE253.out | refine below_set ?_ GE261.out) | exact HB.out)) hb); clear HO_244001; clear HO_249001; clear HO_254001; clear HO_262001; clear BK243; clear BK248; clear BK253; clear BK261; clear HB; have HO_244001 := n0_; have HO_249001 := n1_; have HO_254001 := n2_; have HO_262001 := n3_; have BK243 := n4_; have BK248 := n5_; have BK253 := n6_; have BK261 := n7_; have HB := n8_; clear n0_ n1_ n2_ n3_ n4_ n5_ n6_ n7_ n8_; (try clear hb); (try clear hb2); (try clear hk); (try clear hi)))
          go_roundg k2
          case measure => have := HJ9.out; have := HK2.out; omega
          case rel => exact ⟨(wrap64 (x15_2 + 1)), (by first | rfl | (simp; done) | (simp [*]; done)), H', ⟨by have := HJ9.out; have := HK2.out; omega⟩, ⟨by (with_reducible repeat (first | apply Kd.R_alloc | apply Kd.R_drewN | apply Kd.R_drew)); exact HO_244001.out⟩, ⟨by (with_reducible repeat (first | apply Kd.R_alloc | apply Kd.R_drewN | apply Kd.R_drew)); exact HO_249001.out⟩, ⟨by (with_reducible repeat (first | apply Kd.R_alloc | apply Kd.R_drewN | apply Kd.R_drew)); exact HO_254001.out⟩, ⟨by (with_reducible repeat (first | apply Kd.V_alloc | apply Kd.V_drewN | apply Kd.V_drew)); exact HO_262001.out⟩, ⟨by (with_reducible repeat (first | refine blk_drewN ?_ _ | refine blk_drew ?_ | refine blk_alloc ?_ _)); exact BK243.out⟩, ⟨by (with_reducible repeat (first | refine blk_drewN ?_ _ | refine blk_drew ?_ | refine blk_alloc ?_ _)); exact BK248.out⟩, ⟨by (with_reducible repeat (first | refine blk_drewN ?_ _ | refine blk_drew ?_ | refine blk_alloc ?_ _)); exact BK253.out⟩, ⟨by (with_reducible repeat (first | refine blk_drewN ?_ _ | refine blk_drew ?_ | refine blk_alloc ?_ _)); exact BK261.out⟩, ⟨by repeat (first | (with_reducible first | exact HB.out | apply below_alloc | apply pw_below_drewN | apply below_drew1 | refine below_set ?_ GE243.out | refine below_set ?_ GE248.out | refine below_set ?_ GE253.out | refine below_set ?_ GE261.out) | exact HB.out)⟩⟩
        ·rw [if_neg c72] at H
         exact absurd H (by simp)
      ·rw [if_neg c56] at H
       have c56b0 : decide (x15_2 < (wrap64 (1 + t238))) = false := decide_eq_false c56
       clear c56
       replace H := Option.bind_eq_some_iff.mp H
       obtain ⟨⟨t268, t269, t272⟩, A860, H⟩ := H
       replace H : ((cell_Right.f t257 t258).bind fun t274 => (if t274 = true then ((cell_Over.f k2 t257 t258 t249 t250).bind fun bt275 => ((cell_Over.f k2 t244 t245 t249 t250).bind fun bt279 => ((cell_Over.f k2 t239 t240 bt279.1 bt279.2).bind fun bt283 => ((rootcellarlaw9_as.f k2 bt283.1 bt283.2).bind fun bt287 => ((rootcellarlaw9_same.f k2 bt275.1 bt275.2 bt287.1 bt287.2).bind fun t291 => (if t291 = true then ((cell_Over.f k2 t239 t240 t239 t240).bind fun bt292 => ((rootcellarlaw9_as.f k2 t239 t240).bind fun bt296 => ((rootcellarlaw9_same.f k2 bt292.1 bt292.2 bt296.1 bt296.2).bind fun t300 => (if t300 = true then ((cell_Over.f k2 t239 t240 t268 t269).bind fun bt301 => ((rootcellarlaw9_as.f k2 t239 t240).bind fun bt305 => ((rootcellarlaw9_same.f k2 bt301.1 bt301.2 bt305.1 bt305.2).bind fun t309 => (if t309 = true then ((cell_Over.f k2 t268 t269 t239 t240).bind fun bt310 => ((rootcellarlaw9_as.f k2 t239 t240).bind fun bt314 => ((rootcellarlaw9_same.f k2 bt310.1 bt310.2 bt314.1 bt314.2).bind fun t318 => (some t318)))) else (none))))) else (none))))) else (none))))))) else (none))) = some r := H
       have A86 := Aside0.mk A860
       clear A860
       replace H := Option.bind_eq_some_iff.mp H
       obtain ⟨t274, A870, H⟩ := H
       replace H : (if t274 = true then ((cell_Over.f k2 t257 t258 t249 t250).bind fun bt275 => ((cell_Over.f k2 t244 t245 t249 t250).bind fun bt279 => ((cell_Over.f k2 t239 t240 bt279.1 bt279.2).bind fun bt283 => ((rootcellarlaw9_as.f k2 bt283.1 bt283.2).bind fun bt287 => ((rootcellarlaw9_same.f k2 bt275.1 bt275.2 bt287.1 bt287.2).bind fun t291 => (if t291 = true then ((cell_Over.f k2 t239 t240 t239 t240).bind fun bt292 => ((rootcellarlaw9_as.f k2 t239 t240).bind fun bt296 => ((rootcellarlaw9_same.f k2 bt292.1 bt292.2 bt296.1 bt296.2).bind fun t300 => (if t300 = true then ((cell_Over.f k2 t239 t240 t268 t269).bind fun bt301 => ((rootcellarlaw9_as.f k2 t239 t240).bind fun bt305 => ((rootcellarlaw9_same.f k2 bt301.1 bt301.2 bt305.1 bt305.2).bind fun t309 => (if t309 = true then ((cell_Over.f k2 t268 t269 t239 t240).bind fun bt310 => ((rootcellarlaw9_as.f k2 t239 t240).bind fun bt314 => ((rootcellarlaw9_same.f k2 bt310.1 bt310.2 bt314.1 bt314.2).bind fun t318 => (some t318)))) else (none))))) else (none))))) else (none))))))) else (none)) = some r := H
       have A87 := Aside0.mk A870
       clear A870
       by_cases c88 : t274 = true
       ·subst c88
        have H1 : ((cell_Over.f k2 t257 t258 t249 t250).bind fun bt275 => ((cell_Over.f k2 t244 t245 t249 t250).bind fun bt279 => ((cell_Over.f k2 t239 t240 bt279.1 bt279.2).bind fun bt283 => ((rootcellarlaw9_as.f k2 bt283.1 bt283.2).bind fun bt287 => ((rootcellarlaw9_same.f k2 bt275.1 bt275.2 bt287.1 bt287.2).bind fun t291 => (if t291 = true then ((cell_Over.f k2 t239 t240 t239 t240).bind fun bt292 => ((rootcellarlaw9_as.f k2 t239 t240).bind fun bt296 => ((rootcellarlaw9_same.f k2 bt292.1 bt292.2 bt296.1 bt296.2).bind fun t300 => (if t300 = true then ((cell_Over.f k2 t239 t240 t268 t269).bind fun bt301 => ((rootcellarlaw9_as.f k2 t239 t240).bind fun bt305 => ((rootcellarlaw9_same.f k2 bt301.1 bt301.2 bt305.1 bt305.2).bind fun t309 => (if t309 = true then ((cell_Over.f k2 t268 t269 t239 t240).bind fun bt310 => ((rootcellarlaw9_as.f k2 t239 t240).bind fun bt314 => ((rootcellarlaw9_same.f k2 bt310.1 bt310.2 bt314.1 bt314.2).bind fun t318 => (some t318)))) else (none))))) else (none))))) else (none))))))) = some r := by rw [if_pos rfl] at H; exact H
        clear H
        have H := H1
        clear H1
        replace H := Option.bind_eq_some_iff.mp H
        obtain ⟨⟨t275, t276⟩, A890, H⟩ := H
        replace H : ((cell_Over.f k2 t244 t245 t249 t250).bind fun bt279 => ((cell_Over.f k2 t239 t240 bt279.1 bt279.2).bind fun bt283 => ((rootcellarlaw9_as.f k2 bt283.1 bt283.2).bind fun bt287 => ((rootcellarlaw9_same.f k2 t275 t276 bt287.1 bt287.2).bind fun t291 => (if t291 = true then ((cell_Over.f k2 t239 t240 t239 t240).bind fun bt292 => ((rootcellarlaw9_as.f k2 t239 t240).bind fun bt296 => ((rootcellarlaw9_same.f k2 bt292.1 bt292.2 bt296.1 bt296.2).bind fun t300 => (if t300 = true then ((cell_Over.f k2 t239 t240 t268 t269).bind fun bt301 => ((rootcellarlaw9_as.f k2 t239 t240).bind fun bt305 => ((rootcellarlaw9_same.f k2 bt301.1 bt301.2 bt305.1 bt305.2).bind fun t309 => (if t309 = true then ((cell_Over.f k2 t268 t269 t239 t240).bind fun bt310 => ((rootcellarlaw9_as.f k2 t239 t240).bind fun bt314 => ((rootcellarlaw9_same.f k2 bt310.1 bt310.2 bt314.1 bt314.2).bind fun t318 => (some t318)))) else (none))))) else (none))))) else (none)))))) = some r := H
        have A89 := Aside0.mk A890
        clear A890
        replace H := Option.bind_eq_some_iff.mp H
        obtain ⟨⟨t279, t280⟩, A900, H⟩ := H
        replace H : ((cell_Over.f k2 t239 t240 t279 t280).bind fun bt283 => ((rootcellarlaw9_as.f k2 bt283.1 bt283.2).bind fun bt287 => ((rootcellarlaw9_same.f k2 t275 t276 bt287.1 bt287.2).bind fun t291 => (if t291 = true then ((cell_Over.f k2 t239 t240 t239 t240).bind fun bt292 => ((rootcellarlaw9_as.f k2 t239 t240).bind fun bt296 => ((rootcellarlaw9_same.f k2 bt292.1 bt292.2 bt296.1 bt296.2).bind fun t300 => (if t300 = true then ((cell_Over.f k2 t239 t240 t268 t269).bind fun bt301 => ((rootcellarlaw9_as.f k2 t239 t240).bind fun bt305 => ((rootcellarlaw9_same.f k2 bt301.1 bt301.2 bt305.1 bt305.2).bind fun t309 => (if t309 = true then ((cell_Over.f k2 t268 t269 t239 t240).bind fun bt310 => ((rootcellarlaw9_as.f k2 t239 t240).bind fun bt314 => ((rootcellarlaw9_same.f k2 bt310.1 bt310.2 bt314.1 bt314.2).bind fun t318 => (some t318)))) else (none))))) else (none))))) else (none))))) = some r := H
        have A90 := Aside0.mk A900
        clear A900
        replace H := Option.bind_eq_some_iff.mp H
        obtain ⟨⟨t283, t284⟩, A910, H⟩ := H
        replace H : ((rootcellarlaw9_as.f k2 t283 t284).bind fun bt287 => ((rootcellarlaw9_same.f k2 t275 t276 bt287.1 bt287.2).bind fun t291 => (if t291 = true then ((cell_Over.f k2 t239 t240 t239 t240).bind fun bt292 => ((rootcellarlaw9_as.f k2 t239 t240).bind fun bt296 => ((rootcellarlaw9_same.f k2 bt292.1 bt292.2 bt296.1 bt296.2).bind fun t300 => (if t300 = true then ((cell_Over.f k2 t239 t240 t268 t269).bind fun bt301 => ((rootcellarlaw9_as.f k2 t239 t240).bind fun bt305 => ((rootcellarlaw9_same.f k2 bt301.1 bt301.2 bt305.1 bt305.2).bind fun t309 => (if t309 = true then ((cell_Over.f k2 t268 t269 t239 t240).bind fun bt310 => ((rootcellarlaw9_as.f k2 t239 t240).bind fun bt314 => ((rootcellarlaw9_same.f k2 bt310.1 bt310.2 bt314.1 bt314.2).bind fun t318 => (some t318)))) else (none))))) else (none))))) else (none)))) = some r := H
        have A91 := Aside0.mk A910
        clear A910
        replace H := Option.bind_eq_some_iff.mp H
        obtain ⟨⟨t287, t288⟩, A920, H⟩ := H
        replace H : ((rootcellarlaw9_same.f k2 t275 t276 t287 t288).bind fun t291 => (if t291 = true then ((cell_Over.f k2 t239 t240 t239 t240).bind fun bt292 => ((rootcellarlaw9_as.f k2 t239 t240).bind fun bt296 => ((rootcellarlaw9_same.f k2 bt292.1 bt292.2 bt296.1 bt296.2).bind fun t300 => (if t300 = true then ((cell_Over.f k2 t239 t240 t268 t269).bind fun bt301 => ((rootcellarlaw9_as.f k2 t239 t240).bind fun bt305 => ((rootcellarlaw9_same.f k2 bt301.1 bt301.2 bt305.1 bt305.2).bind fun t309 => (if t309 = true then ((cell_Over.f k2 t268 t269 t239 t240).bind fun bt310 => ((rootcellarlaw9_as.f k2 t239 t240).bind fun bt314 => ((rootcellarlaw9_same.f k2 bt310.1 bt310.2 bt314.1 bt314.2).bind fun t318 => (some t318)))) else (none))))) else (none))))) else (none))) = some r := H
        have A92 := Aside0.mk A920
        clear A920
        replace H := Option.bind_eq_some_iff.mp H
        obtain ⟨t291, A930, H⟩ := H
        replace H : (if t291 = true then ((cell_Over.f k2 t239 t240 t239 t240).bind fun bt292 => ((rootcellarlaw9_as.f k2 t239 t240).bind fun bt296 => ((rootcellarlaw9_same.f k2 bt292.1 bt292.2 bt296.1 bt296.2).bind fun t300 => (if t300 = true then ((cell_Over.f k2 t239 t240 t268 t269).bind fun bt301 => ((rootcellarlaw9_as.f k2 t239 t240).bind fun bt305 => ((rootcellarlaw9_same.f k2 bt301.1 bt301.2 bt305.1 bt305.2).bind fun t309 => (if t309 = true then ((cell_Over.f k2 t268 t269 t239 t240).bind fun bt310 => ((rootcellarlaw9_as.f k2 t239 t240).bind fun bt314 => ((rootcellarlaw9_same.f k2 bt310.1 bt310.2 bt314.1 bt314.2).bind fun t318 => (some t318)))) else (none))))) else (none))))) else (none)) = some r := H
        have A93 := Aside0.mk A930
        clear A930
        by_cases c94 : t291 = true
        ·subst c94
         have H1 : ((cell_Over.f k2 t239 t240 t239 t240).bind fun bt292 => ((rootcellarlaw9_as.f k2 t239 t240).bind fun bt296 => ((rootcellarlaw9_same.f k2 bt292.1 bt292.2 bt296.1 bt296.2).bind fun t300 => (if t300 = true then ((cell_Over.f k2 t239 t240 t268 t269).bind fun bt301 => ((rootcellarlaw9_as.f k2 t239 t240).bind fun bt305 => ((rootcellarlaw9_same.f k2 bt301.1 bt301.2 bt305.1 bt305.2).bind fun t309 => (if t309 = true then ((cell_Over.f k2 t268 t269 t239 t240).bind fun bt310 => ((rootcellarlaw9_as.f k2 t239 t240).bind fun bt314 => ((rootcellarlaw9_same.f k2 bt310.1 bt310.2 bt314.1 bt314.2).bind fun t318 => (some t318)))) else (none))))) else (none))))) = some r := by rw [if_pos rfl] at H; exact H
         clear H
         have H := H1
         clear H1
         replace H := Option.bind_eq_some_iff.mp H
         obtain ⟨⟨t292, t293⟩, A950, H⟩ := H
         replace H : ((rootcellarlaw9_as.f k2 t239 t240).bind fun bt296 => ((rootcellarlaw9_same.f k2 t292 t293 bt296.1 bt296.2).bind fun t300 => (if t300 = true then ((cell_Over.f k2 t239 t240 t268 t269).bind fun bt301 => ((rootcellarlaw9_as.f k2 t239 t240).bind fun bt305 => ((rootcellarlaw9_same.f k2 bt301.1 bt301.2 bt305.1 bt305.2).bind fun t309 => (if t309 = true then ((cell_Over.f k2 t268 t269 t239 t240).bind fun bt310 => ((rootcellarlaw9_as.f k2 t239 t240).bind fun bt314 => ((rootcellarlaw9_same.f k2 bt310.1 bt310.2 bt314.1 bt314.2).bind fun t318 => (some t318)))) else (none))))) else (none)))) = some r := H
         have A95 := Aside0.mk A950
         clear A950
         replace H := Option.bind_eq_some_iff.mp H
         obtain ⟨⟨t296, t297⟩, A960, H⟩ := H
         replace H : ((rootcellarlaw9_same.f k2 t292 t293 t296 t297).bind fun t300 => (if t300 = true then ((cell_Over.f k2 t239 t240 t268 t269).bind fun bt301 => ((rootcellarlaw9_as.f k2 t239 t240).bind fun bt305 => ((rootcellarlaw9_same.f k2 bt301.1 bt301.2 bt305.1 bt305.2).bind fun t309 => (if t309 = true then ((cell_Over.f k2 t268 t269 t239 t240).bind fun bt310 => ((rootcellarlaw9_as.f k2 t239 t240).bind fun bt314 => ((rootcellarlaw9_same.f k2 bt310.1 bt310.2 bt314.1 bt314.2).bind fun t318 => (some t318)))) else (none))))) else (none))) = some r := H
         have A96 := Aside0.mk A960
         clear A960
         replace H := Option.bind_eq_some_iff.mp H
         obtain ⟨t300, A970, H⟩ := H
         replace H : (if t300 = true then ((cell_Over.f k2 t239 t240 t268 t269).bind fun bt301 => ((rootcellarlaw9_as.f k2 t239 t240).bind fun bt305 => ((rootcellarlaw9_same.f k2 bt301.1 bt301.2 bt305.1 bt305.2).bind fun t309 => (if t309 = true then ((cell_Over.f k2 t268 t269 t239 t240).bind fun bt310 => ((rootcellarlaw9_as.f k2 t239 t240).bind fun bt314 => ((rootcellarlaw9_same.f k2 bt310.1 bt310.2 bt314.1 bt314.2).bind fun t318 => (some t318)))) else (none))))) else (none)) = some r := H
         have A97 := Aside0.mk A970
         clear A970
         by_cases c98 : t300 = true
         ·subst c98
          have H1 : ((cell_Over.f k2 t239 t240 t268 t269).bind fun bt301 => ((rootcellarlaw9_as.f k2 t239 t240).bind fun bt305 => ((rootcellarlaw9_same.f k2 bt301.1 bt301.2 bt305.1 bt305.2).bind fun t309 => (if t309 = true then ((cell_Over.f k2 t268 t269 t239 t240).bind fun bt310 => ((rootcellarlaw9_as.f k2 t239 t240).bind fun bt314 => ((rootcellarlaw9_same.f k2 bt310.1 bt310.2 bt314.1 bt314.2).bind fun t318 => (some t318)))) else (none))))) = some r := by rw [if_pos rfl] at H; exact H
          clear H
          have H := H1
          clear H1
          replace H := Option.bind_eq_some_iff.mp H
          obtain ⟨⟨t301, t302⟩, A990, H⟩ := H
          replace H : ((rootcellarlaw9_as.f k2 t239 t240).bind fun bt305 => ((rootcellarlaw9_same.f k2 t301 t302 bt305.1 bt305.2).bind fun t309 => (if t309 = true then ((cell_Over.f k2 t268 t269 t239 t240).bind fun bt310 => ((rootcellarlaw9_as.f k2 t239 t240).bind fun bt314 => ((rootcellarlaw9_same.f k2 bt310.1 bt310.2 bt314.1 bt314.2).bind fun t318 => (some t318)))) else (none)))) = some r := H
          have A99 := Aside0.mk A990
          clear A990
          replace H := Option.bind_eq_some_iff.mp H
          obtain ⟨⟨t305, t306⟩, A1000, H⟩ := H
          replace H : ((rootcellarlaw9_same.f k2 t301 t302 t305 t306).bind fun t309 => (if t309 = true then ((cell_Over.f k2 t268 t269 t239 t240).bind fun bt310 => ((rootcellarlaw9_as.f k2 t239 t240).bind fun bt314 => ((rootcellarlaw9_same.f k2 bt310.1 bt310.2 bt314.1 bt314.2).bind fun t318 => (some t318)))) else (none))) = some r := H
          have A100 := Aside0.mk A1000
          clear A1000
          replace H := Option.bind_eq_some_iff.mp H
          obtain ⟨t309, A1010, H⟩ := H
          replace H : (if t309 = true then ((cell_Over.f k2 t268 t269 t239 t240).bind fun bt310 => ((rootcellarlaw9_as.f k2 t239 t240).bind fun bt314 => ((rootcellarlaw9_same.f k2 bt310.1 bt310.2 bt314.1 bt314.2).bind fun t318 => (some t318)))) else (none)) = some r := H
          have A101 := Aside0.mk A1010
          clear A1010
          by_cases c102 : t309 = true
          ·subst c102
           have H1 : ((cell_Over.f k2 t268 t269 t239 t240).bind fun bt310 => ((rootcellarlaw9_as.f k2 t239 t240).bind fun bt314 => ((rootcellarlaw9_same.f k2 bt310.1 bt310.2 bt314.1 bt314.2).bind fun t318 => (some t318)))) = some r := by rw [if_pos rfl] at H; exact H
           clear H
           have H := H1
           clear H1
           replace H := Option.bind_eq_some_iff.mp H
           obtain ⟨⟨t310, t311⟩, A1030, H⟩ := H
           replace H : ((rootcellarlaw9_as.f k2 t239 t240).bind fun bt314 => ((rootcellarlaw9_same.f k2 t310 t311 bt314.1 bt314.2).bind fun t318 => (some t318))) = some r := H
           have A103 := Aside0.mk A1030
           clear A1030
           replace H := Option.bind_eq_some_iff.mp H
           obtain ⟨⟨t314, t315⟩, A1040, H⟩ := H
           replace H : ((rootcellarlaw9_same.f k2 t310 t311 t314 t315).bind fun t318 => (some t318)) = some r := H
           have A104 := Aside0.mk A1040
           clear A1040
           replace H := Option.bind_eq_some_iff.mp H
           obtain ⟨t318, A1050, H⟩ := H
           replace H : (some t318) = some r := H
           have A105 := Aside0.mk A1050
           clear A1050
           obtain rfl := Option.some.inj H
           try go_wp2_with (first | ((with_reducible refine gate_callee (f := 12) rfl ?_); refine goesL_ (some 90) rfl rfl Try.func12 (by kernel_rfl) rfl #[.int .i64 (wrap64 (1 + t238))] rfl (by (try simp only [List.map_toArray, List.map_cons, List.map_nil]); first | done | rfl | (simp only [List.length_drop, List.length_take]; rfl)) ?_; (with_reducible refine (cell_New.calls (wrap64 (1 + t238)) t268 t269 t272 _ A86.out).mono ?_); rintro e w106 ⟨v270, rfl, ho0, hb⟩; refine ⟨_, rfl, ?_⟩; have n0_ := Aside0.mk (Kd.R_elder' (by (with_reducible repeat (first | apply Kd.R_alloc | apply Kd.R_drewN | apply Kd.R_drew)); exact HO_244001.out) (Kd.R_base ho0) hb); have n1_ := Aside0.mk (Kd.R_elder' (by (with_reducible repeat (first | apply Kd.R_alloc | apply Kd.R_drewN | apply Kd.R_drew)); exact HO_249001.out) (Kd.R_base ho0) hb); have n2_ := Aside0.mk (Kd.R_elder' (by (with_reducible repeat (first | apply Kd.R_alloc | apply Kd.R_drewN | apply Kd.R_drew)); exact HO_254001.out) (Kd.R_base ho0) hb); have n3_ := Aside0.mk (Kd.V_elder' (by (with_reducible repeat (first | apply Kd.V_alloc | apply Kd.V_drewN | apply Kd.V_drew)); exact HO_262001.out) (Kd.R_base ho0) hb); have n4_ := Aside0.mk (Kd.R_lower (Kd.R_new' (Kd.R_new' (Kd.R_new' ho0 (Kd.R_lt (by (with_reducible repeat (first | apply Kd.R_alloc | apply Kd.R_drewN | apply Kd.R_drew)); exact HO_244001.out))) (Kd.R_lt (by (with_reducible repeat (first | apply Kd.R_alloc | apply Kd.R_drewN | apply Kd.R_drew)); exact HO_249001.out))) (Kd.R_lt (by (with_reducible repeat (first | apply Kd.R_alloc | apply Kd.R_drewN | apply Kd.R_drew)); exact HO_254001.out))) (below_size (by repeat (first | (with_reducible first | exact HB.out | apply below_alloc | apply pw_below_drewN | apply below_drew1 | refine below_set ?_ GE243.out | refine below_set ?_ GE248.out | refine below_set ?_ GE253.out | refine below_set ?_ GE261.out) | exact HB.out)))); have n5_ := Aside0.mk (blk_below (g := gb243) (o := .cells #[.int .i64 t239, .slice Ao15 t240.length co15] 27 (0, 0)) (by (with_reducible repeat (first | refine blk_drewN ?_ _ | refine blk_drew ?_ | refine blk_alloc ?_ _)); exact BK243.out) hb); have n6_ := Aside0.mk (blk_below (g := gb248) (o := .cells #[.int .i64 t244, .slice Ao20 t245.length co20] 27 (0, 0)) (by (with_reducible repeat (first | refine blk_drewN ?_ _ | refine blk_drew ?_ | refine blk_alloc ?_ _)); exact BK248.out) hb); have n7_ := Aside0.mk (blk_below (g := gb253) (o := .cells #[.int .i64 t249, .slice Ao26 t250.length co26] 27 (0, 0)) (by (with_reducible repeat (first | refine blk_drewN ?_ _ | refine blk_drew ?_ | refine blk_alloc ?_ _)); exact BK253.out) hb); have n8_ := Aside0.mk (blk_below (g := gb261) (o := .cells #[.int .i64 t257, .slice Ao55 t258.length co55] 27 (0, 0)) (by (with_reducible repeat (first | refine blk_drewN ?_ _ | refine blk_drew ?_ | refine blk_alloc ?_ _)); exact BK261.out) hb); have n9_ := Aside0.mk (below_step (by repeat (first | (with_reducible first | exact HB.out | apply below_alloc | apply pw_below_drewN | apply below_drew1 | refine below_set ?_ GE243.out | refine below_set ?_ GE248.out | refine below_set ?_ GE253.out | refine below_set ?_ GE261.out) | exact HB.out)) hb); clear HO_244001; clear HO_249001; clear HO_254001; clear HO_262001; clear BK243; clear BK248; clear BK253; clear BK261; clear HB; have HO_244001 := n0_; have HO_249001 := n1_; have HO_254001 := n2_; have HO_262001 := n3_; have HO271 := n4_; have BK243 := n5_; have BK248 := n6_; have BK253 := n7_; have BK261 := n8_; have HB := n9_; clear n0_ n1_ n2_ n3_ n4_ n5_ n6_ n7_ n8_ n9_; (try clear hb); (try clear hb2); (try clear hk); (try clear hi); (try clear ho0)) | ((with_reducible refine gate_dst (N := 20) rfl ?_); refine box_event ?hg (N := 20) ?hd (cs := #[.int .i64 0, .slice none 0 0]) (t := 27) ?hr ?_; (case hd => rfl); (case hg => rfl); (case hr => first | (go_simp; done) | (go_simp; rfl)); intro gb273 hg w107 hbox hb; have n0_ := Aside0.mk (Kd.R_below (by (with_reducible repeat (first | apply Kd.R_alloc | apply Kd.R_drewN | apply Kd.R_drew)); exact HO_244001.out) hb); have n1_ := Aside0.mk (Kd.R_below (by (with_reducible repeat (first | apply Kd.R_alloc | apply Kd.R_drewN | apply Kd.R_drew)); exact HO_249001.out) hb); have n2_ := Aside0.mk (Kd.R_below (by (with_reducible repeat (first | apply Kd.R_alloc | apply Kd.R_drewN | apply Kd.R_drew)); exact HO_254001.out) hb); have n3_ := Aside0.mk (Kd.V_below (Kd.V_elderB (by (with_reducible repeat (first | apply Kd.V_alloc | apply Kd.V_drewN | apply Kd.V_drew)); exact HO_262001.out) gb273 (Nat.le_of_eq hg.symm)) hb); have n4_ := Aside0.mk (Kd.R_below (by (with_reducible repeat (first | apply Kd.R_alloc | apply Kd.R_drewN | apply Kd.R_drew)); exact HO271.out) hb); have n5_ := Aside0.mk (blk_below (g := gb243) (o := .cells #[.int .i64 t239, .slice Ao15 t240.length co15] 27 (0, 0)) (by (with_reducible repeat (first | refine blk_drewN ?_ _ | refine blk_drew ?_ | refine blk_alloc ?_ _)); exact BK243.out) hb); have n6_ := Aside0.mk (blk_below (g := gb248) (o := .cells #[.int .i64 t244, .slice Ao20 t245.length co20] 27 (0, 0)) (by (with_reducible repeat (first | refine blk_drewN ?_ _ | refine blk_drew ?_ | refine blk_alloc ?_ _)); exact BK248.out) hb); have n7_ := Aside0.mk (blk_below (g := gb253) (o := .cells #[.int .i64 t249, .slice Ao26 t250.length co26] 27 (0, 0)) (by (with_reducible repeat (first | refine blk_drewN ?_ _ | refine blk_drew ?_ | refine blk_alloc ?_ _)); exact BK253.out) hb); have n8_ := Aside0.mk (blk_below (g := gb261) (o := .cells #[.int .i64 t257, .slice Ao55 t258.length co55] 27 (0, 0)) (by (with_reducible repeat (first | refine blk_drewN ?_ _ | refine blk_drew ?_ | refine blk_alloc ?_ _)); exact BK261.out) hb); have n9_ := Aside0.mk (below_step (by repeat (first | (with_reducible first | exact HB.out | apply below_alloc | apply pw_below_drewN | apply below_drew1 | refine below_set ?_ GE243.out | refine below_set ?_ GE248.out | refine below_set ?_ GE253.out | refine below_set ?_ GE261.out) | exact HB.out)) hb); have n10_ := Aside0.mk (hbox); have n11_ := Aside0.mk ((by rw [hg]; exact (below_size (by repeat (first | (with_reducible first | exact HB.out | apply below_alloc | apply pw_below_drewN | apply below_drew1 | refine below_set ?_ GE243.out | refine below_set ?_ GE248.out | refine below_set ?_ GE253.out | refine below_set ?_ GE261.out) | exact HB.out))) : w.heap.size ≤ gb273)); have n12_ := Aside0.mk ((by rw [hg]; exact (below_size (by repeat (first | (with_reducible first | exact HB.out | apply below_alloc | apply pw_below_drewN | apply below_drew1 | refine below_set ?_ GE243.out | refine below_set ?_ GE248.out | refine below_set ?_ GE253.out | refine below_set ?_ GE261.out) | exact HB.out))) : w.heap.size ≤ gb273)); have n13_ := Aside0.mk ((by rw [hg]; exact Nat.ne_of_lt (blk_lt (g := gb243) (o := .cells #[.int .i64 t239, .slice Ao15 t240.length co15] 27 (0, 0)) (by (with_reducible repeat (first | refine blk_drewN ?_ _ | refine blk_drew ?_ | refine blk_alloc ?_ _)); exact BK243.out)) : gb243 ≠ gb273)); have n14_ := Aside0.mk ((by rw [hg]; exact Nat.ne_of_gt (blk_lt (g := gb243) (o := .cells #[.int .i64 t239, .slice Ao15 t240.length co15] 27 (0, 0)) (by (with_reducible repeat (first | refine blk_drewN ?_ _ | refine blk_drew ?_ | refine blk_alloc ?_ _)); exact BK243.out)) : gb273 ≠ gb243)); have n15_ := Aside0.mk ((by rw [hg]; exact Nat.ne_of_lt (blk_lt (g := gb248) (o := .cells #[.int .i64 t244, .slice Ao20 t245.length co20] 27 (0, 0)) (by (with_reducible repeat (first | refine blk_drewN ?_ _ | refine blk_drew ?_ | refine blk_alloc ?_ _)); exact BK248.out)) : gb248 ≠ gb273)); have n16_ := Aside0.mk ((by rw [hg]; exact Nat.ne_of_gt (blk_lt (g := gb248) (o := .cells #[.int .i64 t244, .slice Ao20 t245.length co20] 27 (0, 0)) (by (with_reducible repeat (first | refine blk_drewN ?_ _ | refine blk_drew ?_ | refine blk_alloc ?_ _)); exact BK248.out)) : gb273 ≠ gb248)); have n17_ := Aside0.mk ((by rw [hg]; exact Nat.ne_of_lt (blk_lt (g := gb253) (o := .cells #[.int .i64 t249, .slice Ao26 t250.length co26] 27 (0, 0)) (by (with_reducible repeat (first | refine blk_drewN ?_ _ | refine blk_drew ?_ | refine blk_alloc ?_ _)); exact BK253.out)) : gb253 ≠ gb273)); have n18_ := Aside0.mk ((by rw [hg]; exact Nat.ne_of_gt (blk_lt (g := gb253) (o := .cells #[.int .i64 t249, .slice Ao26 t250.length co26] 27 (0, 0)) (by (with_reducible repeat (first | refine blk_drewN ?_ _ | refine blk_drew ?_ | refine blk_alloc ?_ _)); exact BK253.out)) : gb273 ≠ gb253)); have n19_ := Aside0.mk ((by rw [hg]; exact Nat.ne_of_lt (blk_lt (g := gb261) (o := .cells #[.int .i64 t257, .slice Ao55 t258.length co55] 27 (0, 0)) (by (with_reducible repeat (first | refine blk_drewN ?_ _ | refine blk_drew ?_ | refine blk_alloc ?_ _)); exact BK261.out)) : gb261 ≠ gb273)); have n20_ := Aside0.mk ((by rw [hg]; exact Nat.ne_of_gt (blk_lt (g := gb261) (o := .cells #[.int .i64 t257, .slice Ao55 t258.length co55] 27 (0, 0)) (by (with_reducible repeat (first | refine blk_drewN ?_ _ | refine blk_drew ?_ | refine blk_alloc ?_ _)); exact BK261.out)) : gb273 ≠ gb261)); clear HO_244001; clear HO_249001; clear HO_254001; clear HO_262001; clear HO271; clear BK243; clear BK248; clear BK253; clear BK261; clear HB; have HO_244001 := n0_; have HO_249001 := n1_; have HO_254001 := n2_; have HO_262001 := n3_; have HO271 := n4_; have BK243 := n5_; have BK248 := n6_; have BK253 := n7_; have BK261 := n8_; have HB := n9_; have BK273 := n10_; have GW273 := n11_; have GE273 := n12_; have NB243_273 := n13_; have NB273_243 := n14_; have NB248_273 := n15_; have NB273_248 := n16_; have NB253_273 := n17_; have NB273_253 := n18_; have NB261_273 := n19_; have NB273_261 := n20_; clear n0_ n1_ n2_ n3_ n4_ n5_ n6_ n7_ n8_ n9_ n10_ n11_ n12_ n13_ n14_ n15_ n16_ n17_ n18_ n19_ n20_; clear hb hbox hg; have hnb108 := NB273_243.out; have hnc108 := NB243_273.out; have hnb109 := NB273_248.out; have hnc109 := NB248_273.out; have hnb110 := NB273_253.out; have hnc110 := NB253_273.out; have hnb111 := NB273_261.out; have hnc111 := NB261_273.out; have hcz112_0 : w107.cell? ⟨gb273, 0, none⟩ = some (.int .i64 0) := (blk_cell BK273.out 0).trans rfl; have hcz112_1 : w107.cell? ⟨gb273, 1, none⟩ = some (.slice none 0 0) := (blk_cell BK273.out 1).trans rfl; have hfz112_0 := blk_frozen BK273.out 0; have hfz112_1 := blk_frozen BK273.out 1; obtain ⟨Ao113, co113, eo113⟩ := Kd.R_slice HO271.out; subst eo113))
           have n0_ : Aside0 (Kd.R k51 51 ((w107.setCell ⟨gb273, 0, none⟩ (.int .i64 t268)).setCell ⟨gb273, 1, none⟩ (.slice Ao113 t269.length co113)) w.heap.size (fun k_ => some k_ ≠ (.slice Ao20 t245.length co20 : Value).ownBlock ∧ some k_ ≠ (.slice Ao26 t250.length co26 : Value).ownBlock ∧ some k_ ≠ (.slice Ao113 t269.length co113 : Value).ownBlock) (.slice Ao15 t240.length co15) t240) := ⟨by (with_reducible repeat (first | apply Kd.R_alloc | apply Kd.R_drewN | apply Kd.R_drew)); exact Kd.R_mono (Kd.R_far (p := ⟨gb273, 1, none⟩) (Kd.R_far (p := ⟨gb273, 0, none⟩) (Kd.R_types HO_244001.out BK273.out (by decide)) (fun _ hk => hk.2) (.int .i64 t268)) (fun _ hk => hk.2) (.slice Ao113 t269.length co113)) (fun _ hk => ⟨hk.1.1.1, ⟨hk.1.1.2, hk.1.2⟩⟩)⟩
           have n1_ : Aside0 (Kd.R k51 51 ((w107.setCell ⟨gb273, 0, none⟩ (.int .i64 t268)).setCell ⟨gb273, 1, none⟩ (.slice Ao113 t269.length co113)) w.heap.size (fun k_ => some k_ ≠ (.slice Ao15 t240.length co15 : Value).ownBlock ∧ some k_ ≠ (.slice Ao26 t250.length co26 : Value).ownBlock ∧ some k_ ≠ (.slice Ao113 t269.length co113 : Value).ownBlock) (.slice Ao20 t245.length co20) t245) := ⟨by (with_reducible repeat (first | apply Kd.R_alloc | apply Kd.R_drewN | apply Kd.R_drew)); exact Kd.R_mono (Kd.R_far (p := ⟨gb273, 1, none⟩) (Kd.R_far (p := ⟨gb273, 0, none⟩) (Kd.R_types HO_249001.out BK273.out (by decide)) (fun _ hk => hk.2) (.int .i64 t268)) (fun _ hk => hk.2) (.slice Ao113 t269.length co113)) (fun _ hk => ⟨hk.1.1.1, ⟨hk.1.1.2, hk.1.2⟩⟩)⟩
           have n2_ : Aside0 (Kd.R k51 51 ((w107.setCell ⟨gb273, 0, none⟩ (.int .i64 t268)).setCell ⟨gb273, 1, none⟩ (.slice Ao113 t269.length co113)) w.heap.size (fun k_ => some k_ ≠ (.slice Ao15 t240.length co15 : Value).ownBlock ∧ some k_ ≠ (.slice Ao20 t245.length co20 : Value).ownBlock ∧ some k_ ≠ (.slice Ao113 t269.length co113 : Value).ownBlock) (.slice Ao26 t250.length co26) t250) := ⟨by (with_reducible repeat (first | apply Kd.R_alloc | apply Kd.R_drewN | apply Kd.R_drew)); exact Kd.R_mono (Kd.R_far (p := ⟨gb273, 1, none⟩) (Kd.R_far (p := ⟨gb273, 0, none⟩) (Kd.R_types HO_254001.out BK273.out (by decide)) (fun _ hk => hk.2) (.int .i64 t268)) (fun _ hk => hk.2) (.slice Ao113 t269.length co113)) (fun _ hk => ⟨hk.1.1.1, ⟨hk.1.1.2, hk.1.2⟩⟩)⟩
           have n3_ : Aside0 (Kd.V k51 51 ((w107.setCell ⟨gb273, 0, none⟩ (.int .i64 t268)).setCell ⟨gb273, 1, none⟩ (.slice Ao113 t269.length co113)) w.heap.size (fun k_ => some k_ ≠ (.slice Ao26 t250.length co26 : Value).ownBlock ∧ some k_ ≠ (.slice Ao113 t269.length co113 : Value).ownBlock ∧ k_ ≠ gb243 ∧ k_ ≠ gb248 ∧ k_ ≠ gb253 ∧ k_ ≠ gb261 ∧ k_ ≠ gb273) (.slice Ao55 t258.length co55) t258) := ⟨by (with_reducible repeat (first | apply Kd.V_alloc | apply Kd.V_drewN | apply Kd.V_drew)); exact Kd.V_mono (Kd.V_far (p := ⟨gb273, 1, none⟩) (Kd.V_far (p := ⟨gb273, 0, none⟩) (Kd.V_mono HO_262001.out (fun k_ hk => (⟨hk, hk.2⟩ : _ ∧ k_ ≠ gb273))) (fun _ hk => hk.2) (.int .i64 t268)) (fun _ hk => hk.2) (.slice Ao113 t269.length co113)) (fun _ hk => ⟨hk.1.1.1.1, ⟨hk.1.1.2, ⟨hk.1.1.1.2.1, ⟨hk.1.1.1.2.2.1, ⟨hk.1.1.1.2.2.2.1, ⟨hk.1.1.1.2.2.2.2, hk.1.2⟩⟩⟩⟩⟩⟩)⟩
           have n4_ : Aside0 (Kd.R k51 51 ((w107.setCell ⟨gb273, 0, none⟩ (.int .i64 t268)).setCell ⟨gb273, 1, none⟩ (.slice Ao113 t269.length co113)) w.heap.size (fun k_ => some k_ ≠ (.slice Ao15 t240.length co15 : Value).ownBlock ∧ some k_ ≠ (.slice Ao20 t245.length co20 : Value).ownBlock ∧ some k_ ≠ (.slice Ao26 t250.length co26 : Value).ownBlock) (.slice Ao113 t269.length co113) t269) := ⟨by (with_reducible repeat (first | apply Kd.R_alloc | apply Kd.R_drewN | apply Kd.R_drew)); exact Kd.R_mono (Kd.R_far (p := ⟨gb273, 1, none⟩) (Kd.R_far (p := ⟨gb273, 0, none⟩) (Kd.R_types HO271.out BK273.out (by decide)) (fun _ hk => hk.2) (.int .i64 t268)) (fun _ hk => hk.2) (.slice Ao113 t269.length co113)) (fun _ hk => ⟨hk.1.1.1.2, ⟨hk.1.1.2, hk.1.2⟩⟩)⟩
           have n5_ : Aside0 (((w107.setCell ⟨gb273, 0, none⟩ (.int .i64 t268)).setCell ⟨gb273, 1, none⟩ (.slice Ao113 t269.length co113)).heap[gb243]? = some (.cells #[.int .i64 t239, .slice Ao15 t240.length co15] 27 (0, 0))) := ⟨by (with_reducible repeat (first | refine blk_drewN ?_ _ | refine blk_drew ?_ | refine blk_alloc ?_ _)); refine blk_far ?_ NB243_273.out _; (with_reducible repeat (first | refine blk_drewN ?_ _ | refine blk_drew ?_ | refine blk_alloc ?_ _)); refine blk_far ?_ NB243_273.out _; (with_reducible repeat (first | refine blk_drewN ?_ _ | refine blk_drew ?_ | refine blk_alloc ?_ _)); exact BK243.out⟩
           have n6_ : Aside0 (((w107.setCell ⟨gb273, 0, none⟩ (.int .i64 t268)).setCell ⟨gb273, 1, none⟩ (.slice Ao113 t269.length co113)).heap[gb248]? = some (.cells #[.int .i64 t244, .slice Ao20 t245.length co20] 27 (0, 0))) := ⟨by (with_reducible repeat (first | refine blk_drewN ?_ _ | refine blk_drew ?_ | refine blk_alloc ?_ _)); refine blk_far ?_ NB248_273.out _; (with_reducible repeat (first | refine blk_drewN ?_ _ | refine blk_drew ?_ | refine blk_alloc ?_ _)); refine blk_far ?_ NB248_273.out _; (with_reducible repeat (first | refine blk_drewN ?_ _ | refine blk_drew ?_ | refine blk_alloc ?_ _)); exact BK248.out⟩
           have n7_ : Aside0 (((w107.setCell ⟨gb273, 0, none⟩ (.int .i64 t268)).setCell ⟨gb273, 1, none⟩ (.slice Ao113 t269.length co113)).heap[gb253]? = some (.cells #[.int .i64 t249, .slice Ao26 t250.length co26] 27 (0, 0))) := ⟨by (with_reducible repeat (first | refine blk_drewN ?_ _ | refine blk_drew ?_ | refine blk_alloc ?_ _)); refine blk_far ?_ NB253_273.out _; (with_reducible repeat (first | refine blk_drewN ?_ _ | refine blk_drew ?_ | refine blk_alloc ?_ _)); refine blk_far ?_ NB253_273.out _; (with_reducible repeat (first | refine blk_drewN ?_ _ | refine blk_drew ?_ | refine blk_alloc ?_ _)); exact BK253.out⟩
           have n8_ : Aside0 (((w107.setCell ⟨gb273, 0, none⟩ (.int .i64 t268)).setCell ⟨gb273, 1, none⟩ (.slice Ao113 t269.length co113)).heap[gb261]? = some (.cells #[.int .i64 t257, .slice Ao55 t258.length co55] 27 (0, 0))) := ⟨by (with_reducible repeat (first | refine blk_drewN ?_ _ | refine blk_drew ?_ | refine blk_alloc ?_ _)); refine blk_far ?_ NB261_273.out _; (with_reducible repeat (first | refine blk_drewN ?_ _ | refine blk_drew ?_ | refine blk_alloc ?_ _)); refine blk_far ?_ NB261_273.out _; (with_reducible repeat (first | refine blk_drewN ?_ _ | refine blk_drew ?_ | refine blk_alloc ?_ _)); exact BK261.out⟩
           have n9_ : Aside0 (((w107.setCell ⟨gb273, 0, none⟩ (.int .i64 t268)).setCell ⟨gb273, 1, none⟩ (.slice Ao113 t269.length co113)).heap[gb273]? = some (.cells #[.int .i64 t268, .slice Ao113 t269.length co113] 27 (0, 0))) := ⟨by (with_reducible repeat (first | refine blk_drewN ?_ _ | refine blk_drew ?_ | refine blk_alloc ?_ _)); refine blk_put (cs := #[.int .i64 t268, .slice none 0 0]) ?_ 1 _ rfl; (with_reducible repeat (first | refine blk_drewN ?_ _ | refine blk_drew ?_ | refine blk_alloc ?_ _)); refine blk_put (cs := #[.int .i64 0, .slice none 0 0]) ?_ 0 _ rfl; (with_reducible repeat (first | refine blk_drewN ?_ _ | refine blk_drew ?_ | refine blk_alloc ?_ _)); exact BK273.out⟩
           have n10_ : Aside0 (Below w.heap.size w ((w107.setCell ⟨gb273, 0, none⟩ (.int .i64 t268)).setCell ⟨gb273, 1, none⟩ (.slice Ao113 t269.length co113))) := ⟨by repeat (first | (with_reducible first | exact HB.out | apply below_alloc | apply pw_below_drewN | apply below_drew1 | refine below_set ?_ GE243.out | refine below_set ?_ GE248.out | refine below_set ?_ GE253.out | refine below_set ?_ GE261.out | refine below_set ?_ GE273.out) | exact HB.out)⟩
           (try clear HO_244001)
           (try clear HO_249001)
           (try clear HO_254001)
           (try clear HO_262001)
           (try clear HO271)
           (try clear BK243)
           (try clear BK248)
           (try clear BK253)
           (try clear BK261)
           (try clear BK273)
           (try clear HB)
           generalize ((w107.setCell ⟨gb273, 0, none⟩ (.int .i64 t268)).setCell ⟨gb273, 1, none⟩ (.slice Ao113 t269.length co113)) = w114 at n0_ n1_ n2_ n3_ n4_ n5_ n6_ n7_ n8_ n9_ n10_ ⊢
           have HO_244001 := n0_
           have HO_249001 := n1_
           have HO_254001 := n2_
           have HO_262001 := n3_
           have HO271 := n4_
           have BK243 := n5_
           have BK248 := n6_
           have BK253 := n7_
           have BK261 := n8_
           have BK273 := n9_
           have HB := n10_
           clear n0_ n1_ n2_ n3_ n4_ n5_ n6_ n7_ n8_ n9_ n10_
           have n0_ := Aside0.mk (Kd.R_drew HO_244001.out)
           have n1_ := Aside0.mk (Kd.R_drew HO_249001.out)
           have n2_ := Aside0.mk (Kd.R_drew HO_254001.out)
           have n3_ := Aside0.mk (Kd.V_drew HO_262001.out)
           have n4_ := Aside0.mk (Kd.R_drew HO271.out)
           have n5_ := Aside0.mk (blk_drew BK243.out)
           have n6_ := Aside0.mk (blk_drew BK248.out)
           have n7_ := Aside0.mk (blk_drew BK253.out)
           have n8_ := Aside0.mk (blk_drew BK261.out)
           have n9_ := Aside0.mk (blk_drew BK273.out)
           have n10_ := Aside0.mk (below_drew1 HB.out)
           clear HO_244001
           clear HO_249001
           clear HO_254001
           clear HO_262001
           clear HO271
           clear BK243
           clear BK248
           clear BK253
           clear BK261
           clear BK273
           clear HB
           have HO_244001 := n0_
           have HO_249001 := n1_
           have HO_254001 := n2_
           have HO_262001 := n3_
           have HO271 := n4_
           have BK243 := n5_
           have BK248 := n6_
           have BK253 := n7_
           have BK261 := n8_
           have BK273 := n9_
           have HB := n10_
           clear n0_ n1_ n2_ n3_ n4_ n5_ n6_ n7_ n8_ n9_ n10_
           refine start_ (n := 39) (S := fun w' => w'.cell? ⟨gb261, 0, none⟩ = some (.int .i64 t257) ∧ w'.cell? ⟨gb261, 1, none⟩ = some (.slice Ao55 t258.length co55) ∧ w'.cell? ⟨gb253, 0, none⟩ = some (.int .i64 t249) ∧ w'.cell? ⟨gb253, 1, none⟩ = some (.slice Ao26 t250.length co26) ∧ w'.cell? ⟨gb243, 0, none⟩ = some (.int .i64 t239) ∧ w'.cell? ⟨gb243, 1, none⟩ = some (.slice Ao15 t240.length co15) ∧ w'.cell? ⟨gb248, 0, none⟩ = some (.int .i64 t244) ∧ w'.cell? ⟨gb248, 1, none⟩ = some (.slice Ao20 t245.length co20) ∧ w'.cell? ⟨gb273, 0, none⟩ = some (.int .i64 t268) ∧ w'.cell? ⟨gb273, 1, none⟩ = some (.slice Ao113 t269.length co113)) (ds := []) #[false, false, false, false, false, false, false, false, false, false, false, false, false, false, false, false, false, false, false, false, false, false, false, false, false, false, false, false, false, false, false, false, false, false, false, false, false, false, false] (by kernel_rfl) rfl rfl ⟨(blk_cell BK261.out 0).trans rfl, (blk_cell BK261.out 1).trans rfl, (blk_cell BK253.out 0).trans rfl, (blk_cell BK253.out 1).trans rfl, (blk_cell BK243.out 0).trans rfl, (blk_cell BK243.out 1).trans rfl, (blk_cell BK248.out 0).trans rfl, (blk_cell BK248.out 1).trans rfl, (blk_cell BK273.out 0).trans rfl, (blk_cell BK273.out 1).trans rfl⟩ (fun hHeld => ?_); refine with_tabW rootcellarlaw9_CellThrough.tab19 rootcellarlaw9_CellThrough.bits19 (fun HT_ HW_ => ?_)
           generalize w114.drew = w115 at HO_244001 HO_249001 HO_254001 HO_262001 HO271 BK243 BK248 BK253 BK261 BK273 HB hHeld ⊢
           refine take_ (i := 0) (N := some 93) (v := ?_) (a' := ?_) #[true, false, false, false, false, false, false, false, false, false, false, false, false, false, false, false, false, false, false, false, false, false, false, false, false, false, false, false, false, false, false, false, false, false, false, false, false, false, false] rfl rfl (take_ofW HT_.out HW_.out (by kernel_rfl)) (fun _ _ _ h => h) (Or.inl ⟨by rfl, ?_⟩) hHeld ?_ ?_
           rotate_left
           ·rintro w' ⟨s0, s1, s2, s3, s4, s5, s6, s7, s8, s9⟩
            go_simp
            with_reducible rfl
           rotate_left
           ·simp only [Act.put, List.setIfInBounds_toArray, List.set_cons_zero, List.set_cons_succ, i64_w, i32_w]
            rfl
           refine one_ (i := 1) (N := some 94) #[true, true, false, false, false, false, false, false, false, false, false, false, false, false, false, false, false, false, false, false, false, false, false, false, false, false, false, false, false, false, false, false, false, false, false, false, false, false, false] rfl rfl (one_of HT_.out (by kernel_rfl)) (by decide) (fun K hK => ?_)
           refine goes_ Try.func16 (by kernel_rfl) rfl #[.agg #[.int .i64 t257, .slice Ao55 t258.length co55]] (by rfl) rfl rfl (by (try simp only [List.map_toArray, List.map_cons, List.map_nil]); first | done | rfl | (simp only [List.length_drop, List.length_take]; rfl)) ?_
           with_reducible refine (cell_Right.calls t257 _ _ t258 true _ ?side1 ?side2 A87.out).mono ?_
           (case side1 => repeat (first | exact (Kd.V_reads' HO_262001.out).2.2 | (with_reducible refine Kd.C_alloc ?_ _) | (with_reducible refine Kd.C_drewN ?_ _) | (with_reducible refine Kd.C_drew ?_)))
           (case side2 => exact (Kd.V_reads' HO_262001.out).2.1)
           rintro e w116 ⟨rfl, hb⟩
           refine ⟨_, rfl, ?_⟩
           have n0_ := Aside0.mk (Kd.R_below (by (with_reducible repeat (first | apply Kd.R_alloc | apply Kd.R_drewN | apply Kd.R_drew)); exact HO_244001.out) hb)
           have n1_ := Aside0.mk (Kd.R_below (by (with_reducible repeat (first | apply Kd.R_alloc | apply Kd.R_drewN | apply Kd.R_drew)); exact HO_249001.out) hb)
           have n2_ := Aside0.mk (Kd.R_below (by (with_reducible repeat (first | apply Kd.R_alloc | apply Kd.R_drewN | apply Kd.R_drew)); exact HO_254001.out) hb)
           have n3_ := Aside0.mk (Kd.V_below (by (with_reducible repeat (first | apply Kd.V_alloc | apply Kd.V_drewN | apply Kd.V_drew)); exact HO_262001.out) hb)
           have n4_ := Aside0.mk (Kd.R_below (by (with_reducible repeat (first | apply Kd.R_alloc | apply Kd.R_drewN | apply Kd.R_drew)); exact HO271.out) hb)
           have n5_ := Aside0.mk (blk_below (g := gb243) (o := .cells #[.int .i64 t239, .slice Ao15 t240.length co15] 27 (0, 0)) (by (with_reducible repeat (first | refine blk_drewN ?_ _ | refine blk_drew ?_ | refine blk_alloc ?_ _)); exact BK243.out) hb)
           have n6_ := Aside0.mk (blk_below (g := gb248) (o := .cells #[.int .i64 t244, .slice Ao20 t245.length co20] 27 (0, 0)) (by (with_reducible repeat (first | refine blk_drewN ?_ _ | refine blk_drew ?_ | refine blk_alloc ?_ _)); exact BK248.out) hb)
           have n7_ := Aside0.mk (blk_below (g := gb253) (o := .cells #[.int .i64 t249, .slice Ao26 t250.length co26] 27 (0, 0)) (by (with_reducible repeat (first | refine blk_drewN ?_ _ | refine blk_drew ?_ | refine blk_alloc ?_ _)); exact BK253.out) hb)
           have n8_ := Aside0.mk (blk_below (g := gb261) (o := .cells #[.int .i64 t257, .slice Ao55 t258.length co55] 27 (0, 0)) (by (with_reducible repeat (first | refine blk_drewN ?_ _ | refine blk_drew ?_ | refine blk_alloc ?_ _)); exact BK261.out) hb)
           have n9_ := Aside0.mk (blk_below (g := gb273) (o := .cells #[.int .i64 t268, .slice Ao113 t269.length co113] 27 (0, 0)) (by (with_reducible repeat (first | refine blk_drewN ?_ _ | refine blk_drew ?_ | refine blk_alloc ?_ _)); exact BK273.out) hb)
           have n10_ := Aside0.mk (below_step (by repeat (first | (with_reducible first | exact HB.out | apply below_alloc | apply pw_below_drewN | apply below_drew1 | refine below_set ?_ GE243.out | refine below_set ?_ GE248.out | refine below_set ?_ GE253.out | refine below_set ?_ GE261.out | refine below_set ?_ GE273.out) | exact HB.out)) hb)
           clear HO_244001
           clear HO_249001
           clear HO_254001
           clear HO_262001
           clear HO271
           clear BK243
           clear BK248
           clear BK253
           clear BK261
           clear BK273
           clear HB
           have HO_244001 := n0_
           have HO_249001 := n1_
           have HO_254001 := n2_
           have HO_262001 := n3_
           have HO271 := n4_
           have BK243 := n5_
           have BK248 := n6_
           have BK253 := n7_
           have BK261 := n8_
           have BK273 := n9_
           have HB := n10_
           clear n0_ n1_ n2_ n3_ n4_ n5_ n6_ n7_ n8_ n9_ n10_
           (try clear hb)
           (try clear hb2)
           (try clear hk)
           (try clear hi)
           refine hK.out _ _ ⟨(blk_cell BK261.out 0).trans rfl, (blk_cell BK261.out 1).trans rfl, (blk_cell BK253.out 0).trans rfl, (blk_cell BK253.out 1).trans rfl, (blk_cell BK243.out 0).trans rfl, (blk_cell BK243.out 1).trans rfl, (blk_cell BK248.out 0).trans rfl, (blk_cell BK248.out 1).trans rfl, (blk_cell BK273.out 0).trans rfl, (blk_cell BK273.out 1).trans rfl⟩ (fun hHeld => ?_)
           clear hK K
           refine norm_ (a' := ?_) ?_ ?_
           rotate_left
           ·show Act.put _ (some 94) _ = _
            simp only [Act.put, List.setIfInBounds_toArray, List.set_cons_zero, List.set_cons_succ, i64_w, i32_w]
            rfl
           refine pure_ (i := 2) (N := some 95) (v := ?_) (a' := ?_) #[true, true, true, false, false, false, false, false, false, false, false, false, false, false, false, false, false, false, false, false, false, false, false, false, false, false, false, false, false, false, false, false, false, false, false, false, false, false, false] rfl rfl (any_of HT_.out (by kernel_rfl)) (fun _ _ _ h => h) (Or.inl ⟨by rfl, ?_⟩) ?_ ?_
           rotate_left
           ·intro w'
            go_simp
            with_reducible rfl
           rotate_left
           ·simp only [Act.put, List.setIfInBounds_toArray, List.set_cons_zero, List.set_cons_succ, i64_w, i32_w]
            rfl
           refine take_ (i := 3) (N := some 96) (v := ?_) (a' := ?_) #[true, true, true, true, false, false, false, false, false, false, false, false, false, false, false, false, false, false, false, false, false, false, false, false, false, false, false, false, false, false, false, false, false, false, false, false, false, false, false] rfl rfl (take_ofW HT_.out HW_.out (by kernel_rfl)) (fun _ _ _ h => h) (Or.inl ⟨by rfl, ?_⟩) hHeld ?_ ?_
           rotate_left
           ·rintro w' ⟨s0, s1, s2, s3, s4, s5, s6, s7, s8, s9⟩
            go_simp
            with_reducible rfl
           rotate_left
           ·simp only [Act.put, List.setIfInBounds_toArray, List.set_cons_zero, List.set_cons_succ, i64_w, i32_w]
            rfl
           refine take_ (i := 4) (N := some 97) (v := ?_) (a' := ?_) #[true, true, true, true, true, false, false, false, false, false, false, false, false, false, false, false, false, false, false, false, false, false, false, false, false, false, false, false, false, false, false, false, false, false, false, false, false, false, false] rfl rfl (take_ofW HT_.out HW_.out (by kernel_rfl)) (fun _ _ _ h => h) (Or.inl ⟨by rfl, ?_⟩) hHeld ?_ ?_
           rotate_left
           ·rintro w' ⟨s0, s1, s2, s3, s4, s5, s6, s7, s8, s9⟩
            go_simp
            with_reducible rfl
           rotate_left
           ·simp only [Act.put, List.setIfInBounds_toArray, List.set_cons_zero, List.set_cons_succ, i64_w, i32_w]
            rfl
           refine take_ (i := 6) (N := some 99) (v := ?_) (a' := ?_) #[true, true, true, true, true, false, true, false, false, false, false, false, false, false, false, false, false, false, false, false, false, false, false, false, false, false, false, false, false, false, false, false, false, false, false, false, false, false, false] rfl rfl (take_ofW HT_.out HW_.out (by kernel_rfl)) (fun _ _ _ h => h) (Or.inl ⟨by rfl, ?_⟩) hHeld ?_ ?_
           rotate_left
           ·rintro w' ⟨s0, s1, s2, s3, s4, s5, s6, s7, s8, s9⟩
            go_simp
            with_reducible rfl
           rotate_left
           ·simp only [Act.put, List.setIfInBounds_toArray, List.set_cons_zero, List.set_cons_succ, i64_w, i32_w]
            rfl
           refine take_ (i := 7) (N := some 100) (v := ?_) (a' := ?_) #[true, true, true, true, true, false, true, true, false, false, false, false, false, false, false, false, false, false, false, false, false, false, false, false, false, false, false, false, false, false, false, false, false, false, false, false, false, false, false] rfl rfl (take_ofW HT_.out HW_.out (by kernel_rfl)) (fun _ _ _ h => h) (Or.inl ⟨by rfl, ?_⟩) hHeld ?_ ?_
           rotate_left
           ·rintro w' ⟨s0, s1, s2, s3, s4, s5, s6, s7, s8, s9⟩
            go_simp
            with_reducible rfl
           rotate_left
           ·simp only [Act.put, List.setIfInBounds_toArray, List.set_cons_zero, List.set_cons_succ, i64_w, i32_w]
            rfl
           refine take_ (i := 8) (N := some 101) (v := ?_) (a' := ?_) #[true, true, true, true, true, false, true, true, true, false, false, false, false, false, false, false, false, false, false, false, false, false, false, false, false, false, false, false, false, false, false, false, false, false, false, false, false, false, false] rfl rfl (take_ofW HT_.out HW_.out (by kernel_rfl)) (fun _ _ _ h => h) (Or.inl ⟨by rfl, ?_⟩) hHeld ?_ ?_
           rotate_left
           ·rintro w' ⟨s0, s1, s2, s3, s4, s5, s6, s7, s8, s9⟩
            go_simp
            with_reducible rfl
           rotate_left
           ·simp only [Act.put, List.setIfInBounds_toArray, List.set_cons_zero, List.set_cons_succ, i64_w, i32_w]
            rfl
           refine one_ (i := 5) (N := some 98) #[true, true, true, true, true, true, true, true, true, false, false, false, false, false, false, false, false, false, false, false, false, false, false, false, false, false, false, false, false, false, false, false, false, false, false, false, false, false, false] rfl rfl (one_of HT_.out (by kernel_rfl)) (by decide) (fun K hK => ?_)
           refine goes_ Try.func17 (by kernel_rfl) rfl #[.agg #[.int .i64 t257, .slice Ao55 t258.length co55], .agg #[.int .i64 t249, .slice Ao26 t250.length co26]] (by rfl) rfl rfl (by (try simp only [List.map_toArray, List.map_cons, List.map_nil]); first | done | rfl | (simp only [List.length_drop, List.length_take]; rfl)) ?_
           with_reducible refine (cell_Over.calls k2 t257 (fun k_ => (some k_ ≠ (.slice Ao26 t250.length co26 : Value).ownBlock ∧ (some k_ ≠ (.slice Ao113 t269.length co113 : Value).ownBlock ∧ (k_ ≠ gb243 ∧ (k_ ≠ gb248 ∧ (k_ ≠ gb253 ∧ (k_ ≠ gb261 ∧ k_ ≠ gb273))))))) _ _ t258 t249 (fun k_ => some k_ = (.slice Ao26 t250.length co26 : Value).ownBlock) _ _ t250 t275 t276 _ ?side1 ?side2 A89.out).mono ?_
           (case side1 => exact HO_262001.out)
           (case side2 => exact Kd.R_V (Kd.R_tight rfl (Kd.R_types (Kd.R_types (Kd.R_types (Kd.R_types (Kd.R_types (HO_254001.out) BK243.out (by decide)) BK248.out (by decide)) BK253.out (by decide)) BK261.out (by decide)) BK273.out (by decide))))
           rintro e w117 ⟨v277, rfl, ho0, hb⟩
           refine ⟨_, rfl, ?_⟩
           have n0_ := Aside0.mk (Kd.R_below (by (with_reducible repeat (first | apply Kd.R_alloc | apply Kd.R_drewN | apply Kd.R_drew)); exact HO_244001.out) hb)
           have n1_ := Aside0.mk (Kd.R_below (by (with_reducible repeat (first | apply Kd.R_alloc | apply Kd.R_drewN | apply Kd.R_drew)); exact HO_249001.out) hb)
           have n2_ := Aside0.mk (Kd.R_below (by (with_reducible repeat (first | apply Kd.R_alloc | apply Kd.R_drewN | apply Kd.R_drew)); exact HO_254001.out) hb)
           have n3_ := Aside0.mk (Kd.V_below (by (with_reducible repeat (first | apply Kd.V_alloc | apply Kd.V_drewN | apply Kd.V_drew)); exact HO_262001.out) hb)
           have n4_ := Aside0.mk (Kd.R_below (by (with_reducible repeat (first | apply Kd.R_alloc | apply Kd.R_drewN | apply Kd.R_drew)); exact HO271.out) hb)
           have n5_ := Aside0.mk (Kd.V_lower (Kd.V_mono (ok' := fun k_ => some k_ ≠ (.slice Ao113 t269.length co113 : Value).ownBlock ∧ k_ ≠ gb243 ∧ k_ ≠ gb248 ∧ k_ ≠ gb253 ∧ k_ ≠ gb261 ∧ k_ ≠ gb273) ho0 (fun k_ hk_ => ⟨Or.elim hk_ (fun hs_ => Or.elim hs_ (fun hs_ => hs_.2.1) (fun hs_ => ((Kd.R_types (Kd.R_types (Kd.R_types (Kd.R_types (Kd.R_types (HO_254001.out) BK243.out (by decide)) BK248.out (by decide)) BK253.out (by decide)) BK261.out (by decide)) BK273.out (by decide)).1 k_ hs_.symm).1.1.1.1.1.2.2)) (fun hn_ => (Kd.fresh' (Kd.R_lt (by (with_reducible repeat (first | apply Kd.R_alloc | apply Kd.R_drewN | apply Kd.R_drew)); exact HO271.out)) k_ hn_)), Or.elim hk_ (fun hs_ => Or.elim hs_ (fun hs_ => hs_.2.2.1) (fun hs_ => ((Kd.R_types (Kd.R_types (Kd.R_types (Kd.R_types (Kd.R_types (HO_254001.out) BK243.out (by decide)) BK248.out (by decide)) BK253.out (by decide)) BK261.out (by decide)) BK273.out (by decide)).1 k_ hs_.symm).1.1.1.1.2)) (fun hn_ => (Kd.freshB (g := gb243) (o := .cells #[.int .i64 t239, .slice Ao15 t240.length co15] 27 (0, 0)) (by (with_reducible repeat (first | refine blk_drewN ?_ _ | refine blk_drew ?_ | refine blk_alloc ?_ _)); exact BK243.out) k_ hn_)), Or.elim hk_ (fun hs_ => Or.elim hs_ (fun hs_ => hs_.2.2.2.1) (fun hs_ => ((Kd.R_types (Kd.R_types (Kd.R_types (Kd.R_types (Kd.R_types (HO_254001.out) BK243.out (by decide)) BK248.out (by decide)) BK253.out (by decide)) BK261.out (by decide)) BK273.out (by decide)).1 k_ hs_.symm).1.1.1.2)) (fun hn_ => (Kd.freshB (g := gb248) (o := .cells #[.int .i64 t244, .slice Ao20 t245.length co20] 27 (0, 0)) (by (with_reducible repeat (first | refine blk_drewN ?_ _ | refine blk_drew ?_ | refine blk_alloc ?_ _)); exact BK248.out) k_ hn_)), Or.elim hk_ (fun hs_ => Or.elim hs_ (fun hs_ => hs_.2.2.2.2.1) (fun hs_ => ((Kd.R_types (Kd.R_types (Kd.R_types (Kd.R_types (Kd.R_types (HO_254001.out) BK243.out (by decide)) BK248.out (by decide)) BK253.out (by decide)) BK261.out (by decide)) BK273.out (by decide)).1 k_ hs_.symm).1.1.2)) (fun hn_ => (Kd.freshB (g := gb253) (o := .cells #[.int .i64 t249, .slice Ao26 t250.length co26] 27 (0, 0)) (by (with_reducible repeat (first | refine blk_drewN ?_ _ | refine blk_drew ?_ | refine blk_alloc ?_ _)); exact BK253.out) k_ hn_)), Or.elim hk_ (fun hs_ => Or.elim hs_ (fun hs_ => hs_.2.2.2.2.2.1) (fun hs_ => ((Kd.R_types (Kd.R_types (Kd.R_types (Kd.R_types (Kd.R_types (HO_254001.out) BK243.out (by decide)) BK248.out (by decide)) BK253.out (by decide)) BK261.out (by decide)) BK273.out (by decide)).1 k_ hs_.symm).1.2)) (fun hn_ => (Kd.freshB (g := gb261) (o := .cells #[.int .i64 t257, .slice Ao55 t258.length co55] 27 (0, 0)) (by (with_reducible repeat (first | refine blk_drewN ?_ _ | refine blk_drew ?_ | refine blk_alloc ?_ _)); exact BK261.out) k_ hn_)), Or.elim hk_ (fun hs_ => Or.elim hs_ (fun hs_ => hs_.2.2.2.2.2.2) (fun hs_ => ((Kd.R_types (Kd.R_types (Kd.R_types (Kd.R_types (Kd.R_types (HO_254001.out) BK243.out (by decide)) BK248.out (by decide)) BK253.out (by decide)) BK261.out (by decide)) BK273.out (by decide)).1 k_ hs_.symm).2)) (fun hn_ => (Kd.freshB (g := gb273) (o := .cells #[.int .i64 t268, .slice Ao113 t269.length co113] 27 (0, 0)) (by (with_reducible repeat (first | refine blk_drewN ?_ _ | refine blk_drew ?_ | refine blk_alloc ?_ _)); exact BK273.out) k_ hn_))⟩)) (below_size (by repeat (first | (with_reducible first | exact HB.out | apply below_alloc | apply pw_below_drewN | apply below_drew1 | refine below_set ?_ GE243.out | refine below_set ?_ GE248.out | refine below_set ?_ GE253.out | refine below_set ?_ GE261.out | refine below_set ?_ GE273.out) | exact HB.out))))
           have n6_ := Aside0.mk (blk_below (g := gb243) (o := .cells #[.int .i64 t239, .slice Ao15 t240.length co15] 27 (0, 0)) (by (with_reducible repeat (first | refine blk_drewN ?_ _ | refine blk_drew ?_ | refine blk_alloc ?_ _)); exact BK243.out) hb)
           have n7_ := Aside0.mk (blk_below (g := gb248) (o := .cells #[.int .i64 t244, .slice Ao20 t245.length co20] 27 (0, 0)) (by (with_reducible repeat (first | refine blk_drewN ?_ _ | refine blk_drew ?_ | refine blk_alloc ?_ _)); exact BK248.out) hb)
           have n8_ := Aside0.mk (blk_below (g := gb253) (o := .cells #[.int .i64 t249, .slice Ao26 t250.length co26] 27 (0, 0)) (by (with_reducible repeat (first | refine blk_drewN ?_ _ | refine blk_drew ?_ | refine blk_alloc ?_ _)); exact BK253.out) hb)
           have n9_ := Aside0.mk (blk_below (g := gb261) (o := .cells #[.int .i64 t257, .slice Ao55 t258.length co55] 27 (0, 0)) (by (with_reducible repeat (first | refine blk_drewN ?_ _ | refine blk_drew ?_ | refine blk_alloc ?_ _)); exact BK261.out) hb)
           have n10_ := Aside0.mk (blk_below (g := gb273) (o := .cells #[.int .i64 t268, .slice Ao113 t269.length co113] 27 (0, 0)) (by (with_reducible repeat (first | refine blk_drewN ?_ _ | refine blk_drew ?_ | refine blk_alloc ?_ _)); exact BK273.out) hb)
           have n11_ := Aside0.mk (below_step (by repeat (first | (with_reducible first | exact HB.out | apply below_alloc | apply pw_below_drewN | apply below_drew1 | refine below_set ?_ GE243.out | refine below_set ?_ GE248.out | refine below_set ?_ GE253.out | refine below_set ?_ GE261.out | refine below_set ?_ GE273.out) | exact HB.out)) hb)
           clear HO_244001
           clear HO_249001
           clear HO_254001
           clear HO_262001
           clear HO271
           clear BK243
           clear BK248
           clear BK253
           clear BK261
           clear BK273
           clear HB
           have HO_244001 := n0_
           have HO_249001 := n1_
           have HO_254001 := n2_
           have HO_262001 := n3_
           have HO271 := n4_
           have HO278 := n5_
           have BK243 := n6_
           have BK248 := n7_
           have BK253 := n8_
           have BK261 := n9_
           have BK273 := n10_
           have HB := n11_
           clear n0_ n1_ n2_ n3_ n4_ n5_ n6_ n7_ n8_ n9_ n10_ n11_
           (try clear hb)
           (try clear hb2)
           (try clear hk)
           (try clear hi)
           (try clear ho0)
           refine hK.out _ _ ⟨(blk_cell BK261.out 0).trans rfl, (blk_cell BK261.out 1).trans rfl, (blk_cell BK253.out 0).trans rfl, (blk_cell BK253.out 1).trans rfl, (blk_cell BK243.out 0).trans rfl, (blk_cell BK243.out 1).trans rfl, (blk_cell BK248.out 0).trans rfl, (blk_cell BK248.out 1).trans rfl, (blk_cell BK273.out 0).trans rfl, (blk_cell BK273.out 1).trans rfl⟩ (fun hHeld => ?_)
           clear hK K
           refine norm_ (a' := ?_) ?_ ?_
           rotate_left
           ·show Act.put _ (some 98) _ = _
            simp only [Act.put, List.setIfInBounds_toArray, List.set_cons_zero, List.set_cons_succ, i64_w, i32_w]
            rfl
           refine one_ (i := 9) (N := some 102) #[true, true, true, true, true, true, true, true, true, true, false, false, false, false, false, false, false, false, false, false, false, false, false, false, false, false, false, false, false, false, false, false, false, false, false, false, false, false, false] rfl rfl (one_of HT_.out (by kernel_rfl)) (by decide) (fun K hK => ?_)
           refine goes_ Try.func17 (by kernel_rfl) rfl #[.agg #[.int .i64 t244, .slice Ao20 t245.length co20], .agg #[.int .i64 t249, .slice Ao26 t250.length co26]] (by rfl) rfl rfl (by (try simp only [List.map_toArray, List.map_cons, List.map_nil]); first | done | rfl | (simp only [List.length_drop, List.length_take]; rfl)) ?_
           with_reducible refine (cell_Over.calls k2 t244 (fun k_ => some k_ = (.slice Ao20 t245.length co20 : Value).ownBlock) _ _ t245 t249 (fun k_ => some k_ = (.slice Ao26 t250.length co26 : Value).ownBlock) _ _ t250 t279 t280 _ ?side1 ?side2 A90.out).mono ?_
           (case side1 => exact Kd.R_V (Kd.R_tight rfl (Kd.R_types (Kd.R_types (Kd.R_types (Kd.R_types (Kd.R_types (HO_249001.out) BK243.out (by decide)) BK248.out (by decide)) BK253.out (by decide)) BK261.out (by decide)) BK273.out (by decide))))
           (case side2 => exact Kd.R_V (Kd.R_tight rfl (Kd.R_types (Kd.R_types (Kd.R_types (Kd.R_types (Kd.R_types (HO_254001.out) BK243.out (by decide)) BK248.out (by decide)) BK253.out (by decide)) BK261.out (by decide)) BK273.out (by decide))))
           rintro e w118 ⟨v281, rfl, ho0, hb⟩
           refine ⟨_, rfl, ?_⟩
           have n0_ := Aside0.mk (Kd.R_below (by (with_reducible repeat (first | apply Kd.R_alloc | apply Kd.R_drewN | apply Kd.R_drew)); exact HO_244001.out) hb)
           have n1_ := Aside0.mk (Kd.R_below (by (with_reducible repeat (first | apply Kd.R_alloc | apply Kd.R_drewN | apply Kd.R_drew)); exact HO_249001.out) hb)
           have n2_ := Aside0.mk (Kd.R_below (by (with_reducible repeat (first | apply Kd.R_alloc | apply Kd.R_drewN | apply Kd.R_drew)); exact HO_254001.out) hb)
           have n3_ := Aside0.mk (Kd.V_below (by (with_reducible repeat (first | apply Kd.V_alloc | apply Kd.V_drewN | apply Kd.V_drew)); exact HO_262001.out) hb)
           have n4_ := Aside0.mk (Kd.R_below (by (with_reducible repeat (first | apply Kd.R_alloc | apply Kd.R_drewN | apply Kd.R_drew)); exact HO271.out) hb)
           have n5_ := Aside0.mk (Kd.V_below (by (with_reducible repeat (first | apply Kd.V_alloc | apply Kd.V_drewN | apply Kd.V_drew)); exact HO278.out) hb)
           have n6_ := Aside0.mk (Kd.V_lower (Kd.V_mono (ok' := fun k_ => some k_ ≠ (.slice Ao15 t240.length co15 : Value).ownBlock ∧ some k_ ≠ (.slice Ao113 t269.length co113 : Value).ownBlock ∧ k_ ≠ gb243 ∧ k_ ≠ gb248 ∧ k_ ≠ gb253 ∧ k_ ≠ gb261 ∧ k_ ≠ gb273) ho0 (fun k_ hk_ => ⟨Or.elim hk_ (fun hs_ => Or.elim hs_ (fun hs_ => ((Kd.R_types (Kd.R_types (Kd.R_types (Kd.R_types (Kd.R_types (HO_249001.out) BK243.out (by decide)) BK248.out (by decide)) BK253.out (by decide)) BK261.out (by decide)) BK273.out (by decide)).1 k_ hs_.symm).1.1.1.1.1.1) (fun hs_ => ((Kd.R_types (Kd.R_types (Kd.R_types (Kd.R_types (Kd.R_types (HO_254001.out) BK243.out (by decide)) BK248.out (by decide)) BK253.out (by decide)) BK261.out (by decide)) BK273.out (by decide)).1 k_ hs_.symm).1.1.1.1.1.1)) (fun hn_ => (Kd.fresh' (Kd.R_lt (by (with_reducible repeat (first | apply Kd.R_alloc | apply Kd.R_drewN | apply Kd.R_drew)); exact HO_244001.out)) k_ hn_)), Or.elim hk_ (fun hs_ => Or.elim hs_ (fun hs_ => ((Kd.R_types (Kd.R_types (Kd.R_types (Kd.R_types (Kd.R_types (HO_249001.out) BK243.out (by decide)) BK248.out (by decide)) BK253.out (by decide)) BK261.out (by decide)) BK273.out (by decide)).1 k_ hs_.symm).1.1.1.1.1.2.2) (fun hs_ => ((Kd.R_types (Kd.R_types (Kd.R_types (Kd.R_types (Kd.R_types (HO_254001.out) BK243.out (by decide)) BK248.out (by decide)) BK253.out (by decide)) BK261.out (by decide)) BK273.out (by decide)).1 k_ hs_.symm).1.1.1.1.1.2.2)) (fun hn_ => (Kd.fresh' (Kd.R_lt (by (with_reducible repeat (first | apply Kd.R_alloc | apply Kd.R_drewN | apply Kd.R_drew)); exact HO271.out)) k_ hn_)), Or.elim hk_ (fun hs_ => Or.elim hs_ (fun hs_ => ((Kd.R_types (Kd.R_types (Kd.R_types (Kd.R_types (Kd.R_types (HO_249001.out) BK243.out (by decide)) BK248.out (by decide)) BK253.out (by decide)) BK261.out (by decide)) BK273.out (by decide)).1 k_ hs_.symm).1.1.1.1.2) (fun hs_ => ((Kd.R_types (Kd.R_types (Kd.R_types (Kd.R_types (Kd.R_types (HO_254001.out) BK243.out (by decide)) BK248.out (by decide)) BK253.out (by decide)) BK261.out (by decide)) BK273.out (by decide)).1 k_ hs_.symm).1.1.1.1.2)) (fun hn_ => (Kd.freshB (g := gb243) (o := .cells #[.int .i64 t239, .slice Ao15 t240.length co15] 27 (0, 0)) (by (with_reducible repeat (first | refine blk_drewN ?_ _ | refine blk_drew ?_ | refine blk_alloc ?_ _)); exact BK243.out) k_ hn_)), Or.elim hk_ (fun hs_ => Or.elim hs_ (fun hs_ => ((Kd.R_types (Kd.R_types (Kd.R_types (Kd.R_types (Kd.R_types (HO_249001.out) BK243.out (by decide)) BK248.out (by decide)) BK253.out (by decide)) BK261.out (by decide)) BK273.out (by decide)).1 k_ hs_.symm).1.1.1.2) (fun hs_ => ((Kd.R_types (Kd.R_types (Kd.R_types (Kd.R_types (Kd.R_types (HO_254001.out) BK243.out (by decide)) BK248.out (by decide)) BK253.out (by decide)) BK261.out (by decide)) BK273.out (by decide)).1 k_ hs_.symm).1.1.1.2)) (fun hn_ => (Kd.freshB (g := gb248) (o := .cells #[.int .i64 t244, .slice Ao20 t245.length co20] 27 (0, 0)) (by (with_reducible repeat (first | refine blk_drewN ?_ _ | refine blk_drew ?_ | refine blk_alloc ?_ _)); exact BK248.out) k_ hn_)), Or.elim hk_ (fun hs_ => Or.elim hs_ (fun hs_ => ((Kd.R_types (Kd.R_types (Kd.R_types (Kd.R_types (Kd.R_types (HO_249001.out) BK243.out (by decide)) BK248.out (by decide)) BK253.out (by decide)) BK261.out (by decide)) BK273.out (by decide)).1 k_ hs_.symm).1.1.2) (fun hs_ => ((Kd.R_types (Kd.R_types (Kd.R_types (Kd.R_types (Kd.R_types (HO_254001.out) BK243.out (by decide)) BK248.out (by decide)) BK253.out (by decide)) BK261.out (by decide)) BK273.out (by decide)).1 k_ hs_.symm).1.1.2)) (fun hn_ => (Kd.freshB (g := gb253) (o := .cells #[.int .i64 t249, .slice Ao26 t250.length co26] 27 (0, 0)) (by (with_reducible repeat (first | refine blk_drewN ?_ _ | refine blk_drew ?_ | refine blk_alloc ?_ _)); exact BK253.out) k_ hn_)), Or.elim hk_ (fun hs_ => Or.elim hs_ (fun hs_ => ((Kd.R_types (Kd.R_types (Kd.R_types (Kd.R_types (Kd.R_types (HO_249001.out) BK243.out (by decide)) BK248.out (by decide)) BK253.out (by decide)) BK261.out (by decide)) BK273.out (by decide)).1 k_ hs_.symm).1.2) (fun hs_ => ((Kd.R_types (Kd.R_types (Kd.R_types (Kd.R_types (Kd.R_types (HO_254001.out) BK243.out (by decide)) BK248.out (by decide)) BK253.out (by decide)) BK261.out (by decide)) BK273.out (by decide)).1 k_ hs_.symm).1.2)) (fun hn_ => (Kd.freshB (g := gb261) (o := .cells #[.int .i64 t257, .slice Ao55 t258.length co55] 27 (0, 0)) (by (with_reducible repeat (first | refine blk_drewN ?_ _ | refine blk_drew ?_ | refine blk_alloc ?_ _)); exact BK261.out) k_ hn_)), Or.elim hk_ (fun hs_ => Or.elim hs_ (fun hs_ => ((Kd.R_types (Kd.R_types (Kd.R_types (Kd.R_types (Kd.R_types (HO_249001.out) BK243.out (by decide)) BK248.out (by decide)) BK253.out (by decide)) BK261.out (by decide)) BK273.out (by decide)).1 k_ hs_.symm).2) (fun hs_ => ((Kd.R_types (Kd.R_types (Kd.R_types (Kd.R_types (Kd.R_types (HO_254001.out) BK243.out (by decide)) BK248.out (by decide)) BK253.out (by decide)) BK261.out (by decide)) BK273.out (by decide)).1 k_ hs_.symm).2)) (fun hn_ => (Kd.freshB (g := gb273) (o := .cells #[.int .i64 t268, .slice Ao113 t269.length co113] 27 (0, 0)) (by (with_reducible repeat (first | refine blk_drewN ?_ _ | refine blk_drew ?_ | refine blk_alloc ?_ _)); exact BK273.out) k_ hn_))⟩)) (below_size (by repeat (first | (with_reducible first | exact HB.out | apply below_alloc | apply pw_below_drewN | apply below_drew1 | refine below_set ?_ GE243.out | refine below_set ?_ GE248.out | refine below_set ?_ GE253.out | refine below_set ?_ GE261.out | refine below_set ?_ GE273.out) | exact HB.out))))
           have n7_ := Aside0.mk (blk_below (g := gb243) (o := .cells #[.int .i64 t239, .slice Ao15 t240.length co15] 27 (0, 0)) (by (with_reducible repeat (first | refine blk_drewN ?_ _ | refine blk_drew ?_ | refine blk_alloc ?_ _)); exact BK243.out) hb)
           have n8_ := Aside0.mk (blk_below (g := gb248) (o := .cells #[.int .i64 t244, .slice Ao20 t245.length co20] 27 (0, 0)) (by (with_reducible repeat (first | refine blk_drewN ?_ _ | refine blk_drew ?_ | refine blk_alloc ?_ _)); exact BK248.out) hb)
           have n9_ := Aside0.mk (blk_below (g := gb253) (o := .cells #[.int .i64 t249, .slice Ao26 t250.length co26] 27 (0, 0)) (by (with_reducible repeat (first | refine blk_drewN ?_ _ | refine blk_drew ?_ | refine blk_alloc ?_ _)); exact BK253.out) hb)
           have n10_ := Aside0.mk (blk_below (g := gb261) (o := .cells #[.int .i64 t257, .slice Ao55 t258.length co55] 27 (0, 0)) (by (with_reducible repeat (first | refine blk_drewN ?_ _ | refine blk_drew ?_ | refine blk_alloc ?_ _)); exact BK261.out) hb)
           have n11_ := Aside0.mk (blk_below (g := gb273) (o := .cells #[.int .i64 t268, .slice Ao113 t269.length co113] 27 (0, 0)) (by (with_reducible repeat (first | refine blk_drewN ?_ _ | refine blk_drew ?_ | refine blk_alloc ?_ _)); exact BK273.out) hb)
           have n12_ := Aside0.mk (below_step (by repeat (first | (with_reducible first | exact HB.out | apply below_alloc | apply pw_below_drewN | apply below_drew1 | refine below_set ?_ GE243.out | refine below_set ?_ GE248.out | refine below_set ?_ GE253.out | refine below_set ?_ GE261.out | refine below_set ?_ GE273.out) | exact HB.out)) hb)
           clear HO_244001
           clear HO_249001
           clear HO_254001
           clear HO_262001
           clear HO271
           clear HO278
           clear BK243
           clear BK248
           clear BK253
           clear BK261
           clear BK273
           clear HB
           have HO_244001 := n0_
           have HO_249001 := n1_
           have HO_254001 := n2_
           have HO_262001 := n3_
           have HO271 := n4_
           have HO278 := n5_
           have HO282 := n6_
           have BK243 := n7_
           have BK248 := n8_
           have BK253 := n9_
           have BK261 := n10_
           have BK273 := n11_
           have HB := n12_
           clear n0_ n1_ n2_ n3_ n4_ n5_ n6_ n7_ n8_ n9_ n10_ n11_ n12_
           (try clear hb)
           (try clear hb2)
           (try clear hk)
           (try clear hi)
           (try clear ho0)
           obtain ⟨Ao119, co119, eo119⟩ := Kd.V_slice HO282.out
           (first | subst eo119 | (injection eo119 with f1_ f2_ f3_; have f4_ := f1_.symm; have f5_ := f3_.symm; clear f1_ f2_ f3_; subst f4_; subst f5_))
           refine hK.out _ _ ⟨(blk_cell BK261.out 0).trans rfl, (blk_cell BK261.out 1).trans rfl, (blk_cell BK253.out 0).trans rfl, (blk_cell BK253.out 1).trans rfl, (blk_cell BK243.out 0).trans rfl, (blk_cell BK243.out 1).trans rfl, (blk_cell BK248.out 0).trans rfl, (blk_cell BK248.out 1).trans rfl, (blk_cell BK273.out 0).trans rfl, (blk_cell BK273.out 1).trans rfl⟩ (fun hHeld => ?_)
           clear hK K
           refine norm_ (a' := ?_) ?_ ?_
           rotate_left
           ·show Act.put _ (some 102) _ = _
            simp only [Act.put, List.setIfInBounds_toArray, List.set_cons_zero, List.set_cons_succ, i64_w, i32_w]
            rfl
           refine one_ (i := 10) (N := some 103) #[true, true, true, true, true, true, true, true, true, true, true, false, false, false, false, false, false, false, false, false, false, false, false, false, false, false, false, false, false, false, false, false, false, false, false, false, false, false, false] rfl rfl (one_of HT_.out (by kernel_rfl)) (by decide) (fun K hK => ?_)
           refine goes_ Try.func17 (by kernel_rfl) rfl #[.agg #[.int .i64 t239, .slice Ao15 t240.length co15], .agg #[.int .i64 t279, .slice Ao119 t280.length co119]] (by rfl) rfl rfl (by (try simp only [List.map_toArray, List.map_cons, List.map_nil]); first | done | rfl | (simp only [List.length_drop, List.length_take]; rfl)) ?_
           with_reducible refine (cell_Over.calls k2 t239 (fun k_ => some k_ = (.slice Ao15 t240.length co15 : Value).ownBlock) _ _ t240 t279 (fun k_ => (some k_ ≠ (.slice Ao15 t240.length co15 : Value).ownBlock ∧ (some k_ ≠ (.slice Ao113 t269.length co113 : Value).ownBlock ∧ (k_ ≠ gb243 ∧ (k_ ≠ gb248 ∧ (k_ ≠ gb253 ∧ (k_ ≠ gb261 ∧ k_ ≠ gb273))))))) _ _ t280 t283 t284 _ ?side1 ?side2 A91.out).mono ?_
           (case side1 => exact Kd.R_V (Kd.R_tight rfl (Kd.R_types (Kd.R_types (Kd.R_types (Kd.R_types (Kd.R_types (HO_244001.out) BK243.out (by decide)) BK248.out (by decide)) BK253.out (by decide)) BK261.out (by decide)) BK273.out (by decide))))
           (case side2 => exact HO282.out)
           rintro e w120 ⟨v285, rfl, ho0, hb⟩
           refine ⟨_, rfl, ?_⟩
           have n0_ := Aside0.mk (Kd.R_below (by (with_reducible repeat (first | apply Kd.R_alloc | apply Kd.R_drewN | apply Kd.R_drew)); exact HO_244001.out) hb)
           have n1_ := Aside0.mk (Kd.R_below (by (with_reducible repeat (first | apply Kd.R_alloc | apply Kd.R_drewN | apply Kd.R_drew)); exact HO_249001.out) hb)
           have n2_ := Aside0.mk (Kd.R_below (by (with_reducible repeat (first | apply Kd.R_alloc | apply Kd.R_drewN | apply Kd.R_drew)); exact HO_254001.out) hb)
           have n3_ := Aside0.mk (Kd.V_below (by (with_reducible repeat (first | apply Kd.V_alloc | apply Kd.V_drewN | apply Kd.V_drew)); exact HO_262001.out) hb)
           have n4_ := Aside0.mk (Kd.R_below (by (with_reducible repeat (first | apply Kd.R_alloc | apply Kd.R_drewN | apply Kd.R_drew)); exact HO271.out) hb)
           have n5_ := Aside0.mk (Kd.V_below (by (with_reducible repeat (first | apply Kd.V_alloc | apply Kd.V_drewN | apply Kd.V_drew)); exact HO278.out) hb)
           have n6_ := Aside0.mk (Kd.V_below (by (with_reducible repeat (first | apply Kd.V_alloc | apply Kd.V_drewN | apply Kd.V_drew)); exact HO282.out) hb)
           have n7_ := Aside0.mk (Kd.V_lower (Kd.V_mono (ok' := fun k_ => some k_ ≠ (.slice Ao113 t269.length co113 : Value).ownBlock ∧ k_ ≠ gb243 ∧ k_ ≠ gb248 ∧ k_ ≠ gb253 ∧ k_ ≠ gb261 ∧ k_ ≠ gb273) ho0 (fun k_ hk_ => ⟨Or.elim hk_ (fun hs_ => Or.elim hs_ (fun hs_ => ((Kd.R_types (Kd.R_types (Kd.R_types (Kd.R_types (Kd.R_types (HO_244001.out) BK243.out (by decide)) BK248.out (by decide)) BK253.out (by decide)) BK261.out (by decide)) BK273.out (by decide)).1 k_ hs_.symm).1.1.1.1.1.2.2) (fun hs_ => hs_.2.1)) (fun hn_ => (Kd.fresh' (Kd.R_lt (by (with_reducible repeat (first | apply Kd.R_alloc | apply Kd.R_drewN | apply Kd.R_drew)); exact HO271.out)) k_ hn_)), Or.elim hk_ (fun hs_ => Or.elim hs_ (fun hs_ => ((Kd.R_types (Kd.R_types (Kd.R_types (Kd.R_types (Kd.R_types (HO_244001.out) BK243.out (by decide)) BK248.out (by decide)) BK253.out (by decide)) BK261.out (by decide)) BK273.out (by decide)).1 k_ hs_.symm).1.1.1.1.2) (fun hs_ => hs_.2.2.1)) (fun hn_ => (Kd.freshB (g := gb243) (o := .cells #[.int .i64 t239, .slice Ao15 t240.length co15] 27 (0, 0)) (by (with_reducible repeat (first | refine blk_drewN ?_ _ | refine blk_drew ?_ | refine blk_alloc ?_ _)); exact BK243.out) k_ hn_)), Or.elim hk_ (fun hs_ => Or.elim hs_ (fun hs_ => ((Kd.R_types (Kd.R_types (Kd.R_types (Kd.R_types (Kd.R_types (HO_244001.out) BK243.out (by decide)) BK248.out (by decide)) BK253.out (by decide)) BK261.out (by decide)) BK273.out (by decide)).1 k_ hs_.symm).1.1.1.2) (fun hs_ => hs_.2.2.2.1)) (fun hn_ => (Kd.freshB (g := gb248) (o := .cells #[.int .i64 t244, .slice Ao20 t245.length co20] 27 (0, 0)) (by (with_reducible repeat (first | refine blk_drewN ?_ _ | refine blk_drew ?_ | refine blk_alloc ?_ _)); exact BK248.out) k_ hn_)), Or.elim hk_ (fun hs_ => Or.elim hs_ (fun hs_ => ((Kd.R_types (Kd.R_types (Kd.R_types (Kd.R_types (Kd.R_types (HO_244001.out) BK243.out (by decide)) BK248.out (by decide)) BK253.out (by decide)) BK261.out (by decide)) BK273.out (by decide)).1 k_ hs_.symm).1.1.2) (fun hs_ => hs_.2.2.2.2.1)) (fun hn_ => (Kd.freshB (g := gb253) (o := .cells #[.int .i64 t249, .slice Ao26 t250.length co26] 27 (0, 0)) (by (with_reducible repeat (first | refine blk_drewN ?_ _ | refine blk_drew ?_ | refine blk_alloc ?_ _)); exact BK253.out) k_ hn_)), Or.elim hk_ (fun hs_ => Or.elim hs_ (fun hs_ => ((Kd.R_types (Kd.R_types (Kd.R_types (Kd.R_types (Kd.R_types (HO_244001.out) BK243.out (by decide)) BK248.out (by decide)) BK253.out (by decide)) BK261.out (by decide)) BK273.out (by decide)).1 k_ hs_.symm).1.2) (fun hs_ => hs_.2.2.2.2.2.1)) (fun hn_ => (Kd.freshB (g := gb261) (o := .cells #[.int .i64 t257, .slice Ao55 t258.length co55] 27 (0, 0)) (by (with_reducible repeat (first | refine blk_drewN ?_ _ | refine blk_drew ?_ | refine blk_alloc ?_ _)); exact BK261.out) k_ hn_)), Or.elim hk_ (fun hs_ => Or.elim hs_ (fun hs_ => ((Kd.R_types (Kd.R_types (Kd.R_types (Kd.R_types (Kd.R_types (HO_244001.out) BK243.out (by decide)) BK248.out (by decide)) BK253.out (by decide)) BK261.out (by decide)) BK273.out (by decide)).1 k_ hs_.symm).2) (fun hs_ => hs_.2.2.2.2.2.2)) (fun hn_ => (Kd.freshB (g := gb273) (o := .cells #[.int .i64 t268, .slice Ao113 t269.length co113] 27 (0, 0)) (by (with_reducible repeat (first | refine blk_drewN ?_ _ | refine blk_drew ?_ | refine blk_alloc ?_ _)); exact BK273.out) k_ hn_))⟩)) (below_size (by repeat (first | (with_reducible first | exact HB.out | apply below_alloc | apply pw_below_drewN | apply below_drew1 | refine below_set ?_ GE243.out | refine below_set ?_ GE248.out | refine below_set ?_ GE253.out | refine below_set ?_ GE261.out | refine below_set ?_ GE273.out) | exact HB.out))))
           have n8_ := Aside0.mk (blk_below (g := gb243) (o := .cells #[.int .i64 t239, .slice Ao15 t240.length co15] 27 (0, 0)) (by (with_reducible repeat (first | refine blk_drewN ?_ _ | refine blk_drew ?_ | refine blk_alloc ?_ _)); exact BK243.out) hb)
           have n9_ := Aside0.mk (blk_below (g := gb248) (o := .cells #[.int .i64 t244, .slice Ao20 t245.length co20] 27 (0, 0)) (by (with_reducible repeat (first | refine blk_drewN ?_ _ | refine blk_drew ?_ | refine blk_alloc ?_ _)); exact BK248.out) hb)
           have n10_ := Aside0.mk (blk_below (g := gb253) (o := .cells #[.int .i64 t249, .slice Ao26 t250.length co26] 27 (0, 0)) (by (with_reducible repeat (first | refine blk_drewN ?_ _ | refine blk_drew ?_ | refine blk_alloc ?_ _)); exact BK253.out) hb)
           have n11_ := Aside0.mk (blk_below (g := gb261) (o := .cells #[.int .i64 t257, .slice Ao55 t258.length co55] 27 (0, 0)) (by (with_reducible repeat (first | refine blk_drewN ?_ _ | refine blk_drew ?_ | refine blk_alloc ?_ _)); exact BK261.out) hb)
           have n12_ := Aside0.mk (blk_below (g := gb273) (o := .cells #[.int .i64 t268, .slice Ao113 t269.length co113] 27 (0, 0)) (by (with_reducible repeat (first | refine blk_drewN ?_ _ | refine blk_drew ?_ | refine blk_alloc ?_ _)); exact BK273.out) hb)
           have n13_ := Aside0.mk (below_step (by repeat (first | (with_reducible first | exact HB.out | apply below_alloc | apply pw_below_drewN | apply below_drew1 | refine below_set ?_ GE243.out | refine below_set ?_ GE248.out | refine below_set ?_ GE253.out | refine below_set ?_ GE261.out | refine below_set ?_ GE273.out) | exact HB.out)) hb)
           clear HO_244001
           clear HO_249001
           clear HO_254001
           clear HO_262001
           clear HO271
           clear HO278
           clear HO282
           clear BK243
           clear BK248
           clear BK253
           clear BK261
           clear BK273
           clear HB
           have HO_244001 := n0_
           have HO_249001 := n1_
           have HO_254001 := n2_
           have HO_262001 := n3_
           have HO271 := n4_
           have HO278 := n5_
           have HO282 := n6_
           have HO286 := n7_
           have BK243 := n8_
           have BK248 := n9_
           have BK253 := n10_
           have BK261 := n11_
           have BK273 := n12_
           have HB := n13_
           clear n0_ n1_ n2_ n3_ n4_ n5_ n6_ n7_ n8_ n9_ n10_ n11_ n12_ n13_
           (try clear hb)
           (try clear hb2)
           (try clear hk)
           (try clear hi)
           (try clear ho0)
           obtain ⟨Ao121, co121, eo121⟩ := Kd.V_slice HO286.out
           (first | subst eo121 | (injection eo121 with f1_ f2_ f3_; have f4_ := f1_.symm; have f5_ := f3_.symm; clear f1_ f2_ f3_; subst f4_; subst f5_))
           refine hK.out _ _ ⟨(blk_cell BK261.out 0).trans rfl, (blk_cell BK261.out 1).trans rfl, (blk_cell BK253.out 0).trans rfl, (blk_cell BK253.out 1).trans rfl, (blk_cell BK243.out 0).trans rfl, (blk_cell BK243.out 1).trans rfl, (blk_cell BK248.out 0).trans rfl, (blk_cell BK248.out 1).trans rfl, (blk_cell BK273.out 0).trans rfl, (blk_cell BK273.out 1).trans rfl⟩ (fun hHeld => ?_)
           clear hK K
           refine norm_ (a' := ?_) ?_ ?_
           rotate_left
           ·show Act.put _ (some 103) _ = _
            simp only [Act.put, List.setIfInBounds_toArray, List.set_cons_zero, List.set_cons_succ, i64_w, i32_w]
            rfl
           refine one_ (i := 11) (N := some 104) #[true, true, true, true, true, true, true, true, true, true, true, true, false, false, false, false, false, false, false, false, false, false, false, false, false, false, false, false, false, false, false, false, false, false, false, false, false, false, false] rfl rfl (one_of HT_.out (by kernel_rfl)) (by decide) (fun K hK => ?_)
           refine goes_ Try.func19 (by kernel_rfl) rfl #[.agg #[.int .i64 t283, .slice Ao121 t284.length co121]] (by rfl) rfl rfl (by (try simp only [List.map_toArray, List.map_cons, List.map_nil]); first | done | rfl | (simp only [List.length_drop, List.length_take]; rfl)) ?_
           with_reducible refine (rootcellarlaw9_as.calls k2 t283 _ _ t284 t287 t288 _ ?side1 ?side2 A92.out).mono ?_
           (case side1 => repeat (first | exact (Kd.V_reads' HO286.out).2.2 | (with_reducible refine Kd.C_alloc ?_ _) | (with_reducible refine Kd.C_drewN ?_ _) | (with_reducible refine Kd.C_drew ?_)))
           (case side2 => exact (Kd.V_reads' HO286.out).2.1)
           rintro e w122 ⟨v289, rfl, ho0, hb⟩
           refine ⟨_, rfl, ?_⟩
           have n0_ := Aside0.mk (Kd.R_below (by (with_reducible repeat (first | apply Kd.R_alloc | apply Kd.R_drewN | apply Kd.R_drew)); exact HO_244001.out) hb)
           have n1_ := Aside0.mk (Kd.R_below (by (with_reducible repeat (first | apply Kd.R_alloc | apply Kd.R_drewN | apply Kd.R_drew)); exact HO_249001.out) hb)
           have n2_ := Aside0.mk (Kd.R_below (by (with_reducible repeat (first | apply Kd.R_alloc | apply Kd.R_drewN | apply Kd.R_drew)); exact HO_254001.out) hb)
           have n3_ := Aside0.mk (Kd.V_elder' (by (with_reducible repeat (first | apply Kd.V_alloc | apply Kd.V_drewN | apply Kd.V_drew)); exact HO_262001.out) (Kd.R_base ho0) hb)
           have n4_ := Aside0.mk (Kd.R_below (by (with_reducible repeat (first | apply Kd.R_alloc | apply Kd.R_drewN | apply Kd.R_drew)); exact HO271.out) hb)
           have n5_ := Aside0.mk (Kd.V_elder' (by (with_reducible repeat (first | apply Kd.V_alloc | apply Kd.V_drewN | apply Kd.V_drew)); exact HO278.out) (Kd.R_base ho0) hb)
           have n6_ := Aside0.mk (Kd.V_elder' (by (with_reducible repeat (first | apply Kd.V_alloc | apply Kd.V_drewN | apply Kd.V_drew)); exact HO282.out) (Kd.R_base ho0) hb)
           have n7_ := Aside0.mk (Kd.V_elder' (by (with_reducible repeat (first | apply Kd.V_alloc | apply Kd.V_drewN | apply Kd.V_drew)); exact HO286.out) (Kd.R_base ho0) hb)
           have n8_ := Aside0.mk (Kd.R_lower ho0 (below_size (by repeat (first | (with_reducible first | exact HB.out | apply below_alloc | apply pw_below_drewN | apply below_drew1 | refine below_set ?_ GE243.out | refine below_set ?_ GE248.out | refine below_set ?_ GE253.out | refine below_set ?_ GE261.out | refine below_set ?_ GE273.out) | exact HB.out))))
           have n9_ := Aside0.mk (blk_below (g := gb243) (o := .cells #[.int .i64 t239, .slice Ao15 t240.length co15] 27 (0, 0)) (by (with_reducible repeat (first | refine blk_drewN ?_ _ | refine blk_drew ?_ | refine blk_alloc ?_ _)); exact BK243.out) hb)
           have n10_ := Aside0.mk (blk_below (g := gb248) (o := .cells #[.int .i64 t244, .slice Ao20 t245.length co20] 27 (0, 0)) (by (with_reducible repeat (first | refine blk_drewN ?_ _ | refine blk_drew ?_ | refine blk_alloc ?_ _)); exact BK248.out) hb)
           have n11_ := Aside0.mk (blk_below (g := gb253) (o := .cells #[.int .i64 t249, .slice Ao26 t250.length co26] 27 (0, 0)) (by (with_reducible repeat (first | refine blk_drewN ?_ _ | refine blk_drew ?_ | refine blk_alloc ?_ _)); exact BK253.out) hb)
           have n12_ := Aside0.mk (blk_below (g := gb261) (o := .cells #[.int .i64 t257, .slice Ao55 t258.length co55] 27 (0, 0)) (by (with_reducible repeat (first | refine blk_drewN ?_ _ | refine blk_drew ?_ | refine blk_alloc ?_ _)); exact BK261.out) hb)
           have n13_ := Aside0.mk (blk_below (g := gb273) (o := .cells #[.int .i64 t268, .slice Ao113 t269.length co113] 27 (0, 0)) (by (with_reducible repeat (first | refine blk_drewN ?_ _ | refine blk_drew ?_ | refine blk_alloc ?_ _)); exact BK273.out) hb)
           have n14_ := Aside0.mk (below_step (by repeat (first | (with_reducible first | exact HB.out | apply below_alloc | apply pw_below_drewN | apply below_drew1 | refine below_set ?_ GE243.out | refine below_set ?_ GE248.out | refine below_set ?_ GE253.out | refine below_set ?_ GE261.out | refine below_set ?_ GE273.out) | exact HB.out)) hb)
           clear HO_244001
           clear HO_249001
           clear HO_254001
           clear HO_262001
           clear HO271
           clear HO278
           clear HO282
           clear HO286
           clear BK243
           clear BK248
           clear BK253
           clear BK261
           clear BK273
           clear HB
           have HO_244001 := n0_
           have HO_249001 := n1_
           have HO_254001 := n2_
           have HO_262001 := n3_
           have HO271 := n4_
           have HO278 := n5_
           have HO282 := n6_
           have HO286 := n7_
           have HO290 := n8_
           have BK243 := n9_
           have BK248 := n10_
           have BK253 := n11_
           have BK261 := n12_
           have BK273 := n13_
           have HB := n14_
           clear n0_ n1_ n2_ n3_ n4_ n5_ n6_ n7_ n8_ n9_ n10_ n11_ n12_ n13_ n14_
           (try clear hb)
           (try clear hb2)
           (try clear hk)
           (try clear hi)
           (try clear ho0)
           obtain ⟨Ao123, co123, eo123⟩ := Kd.V_slice HO278.out
           (first | subst eo123 | (injection eo123 with f1_ f2_ f3_; have f4_ := f1_.symm; have f5_ := f3_.symm; clear f1_ f2_ f3_; subst f4_; subst f5_))
           obtain ⟨Ao124, co124, eo124⟩ := Kd.R_slice HO290.out
           (first | subst eo124 | (injection eo124 with f1_ f2_ f3_; have f4_ := f1_.symm; have f5_ := f3_.symm; clear f1_ f2_ f3_; subst f4_; subst f5_))
           refine hK.out _ _ ⟨(blk_cell BK261.out 0).trans rfl, (blk_cell BK261.out 1).trans rfl, (blk_cell BK253.out 0).trans rfl, (blk_cell BK253.out 1).trans rfl, (blk_cell BK243.out 0).trans rfl, (blk_cell BK243.out 1).trans rfl, (blk_cell BK248.out 0).trans rfl, (blk_cell BK248.out 1).trans rfl, (blk_cell BK273.out 0).trans rfl, (blk_cell BK273.out 1).trans rfl⟩ (fun hHeld => ?_)
           clear hK K
           refine norm_ (a' := ?_) ?_ ?_
           rotate_left
           ·show Act.put _ (some 104) _ = _
            simp only [Act.put, List.setIfInBounds_toArray, List.set_cons_zero, List.set_cons_succ, i64_w, i32_w]
            rfl
           refine one_ (i := 12) (N := some 105) #[true, true, true, true, true, true, true, true, true, true, true, true, true, false, false, false, false, false, false, false, false, false, false, false, false, false, false, false, false, false, false, false, false, false, false, false, false, false, false] rfl rfl (one_of HT_.out (by kernel_rfl)) (by decide) (fun K hK => ?_)
           refine goes_ Try.func18 (by kernel_rfl) rfl #[.agg #[.int .i64 t275, .slice Ao123 t276.length co123], .agg #[.int .i64 t287, .slice Ao124 t288.length co124]] (by rfl) rfl rfl (by (try simp only [List.map_toArray, List.map_cons, List.map_nil]); first | done | rfl | (simp only [List.length_drop, List.length_take]; rfl)) ?_
           with_reducible refine (rootcellarlaw9_same.calls k2 t275 _ _ t276 t287 _ _ t288 true _ ?side1 ?side2 ?side3 ?side4 A93.out).mono ?_
           (case side1 => repeat (first | exact (Kd.V_reads' HO278.out).2.2 | (with_reducible refine Kd.C_alloc ?_ _) | (with_reducible refine Kd.C_drewN ?_ _) | (with_reducible refine Kd.C_drew ?_)))
           (case side2 => exact (Kd.V_reads' HO278.out).2.1)
           (case side3 => repeat (first | exact (Kd.R_reads' HO290.out).2.2 | (with_reducible refine Kd.C_alloc ?_ _) | (with_reducible refine Kd.C_drewN ?_ _) | (with_reducible refine Kd.C_drew ?_)))
           (case side4 => exact (Kd.R_reads' HO290.out).2.1)
           rintro e w125 ⟨rfl, hb⟩
           refine ⟨_, rfl, ?_⟩
           have n0_ := Aside0.mk (Kd.R_below (by (with_reducible repeat (first | apply Kd.R_alloc | apply Kd.R_drewN | apply Kd.R_drew)); exact HO_244001.out) hb)
           have n1_ := Aside0.mk (Kd.R_below (by (with_reducible repeat (first | apply Kd.R_alloc | apply Kd.R_drewN | apply Kd.R_drew)); exact HO_249001.out) hb)
           have n2_ := Aside0.mk (Kd.R_below (by (with_reducible repeat (first | apply Kd.R_alloc | apply Kd.R_drewN | apply Kd.R_drew)); exact HO_254001.out) hb)
           have n3_ := Aside0.mk (Kd.V_below (by (with_reducible repeat (first | apply Kd.V_alloc | apply Kd.V_drewN | apply Kd.V_drew)); exact HO_262001.out) hb)
           have n4_ := Aside0.mk (Kd.R_below (by (with_reducible repeat (first | apply Kd.R_alloc | apply Kd.R_drewN | apply Kd.R_drew)); exact HO271.out) hb)
           have n5_ := Aside0.mk (Kd.V_below (by (with_reducible repeat (first | apply Kd.V_alloc | apply Kd.V_drewN | apply Kd.V_drew)); exact HO278.out) hb)
           have n6_ := Aside0.mk (Kd.V_below (by (with_reducible repeat (first | apply Kd.V_alloc | apply Kd.V_drewN | apply Kd.V_drew)); exact HO282.out) hb)
           have n7_ := Aside0.mk (Kd.V_below (by (with_reducible repeat (first | apply Kd.V_alloc | apply Kd.V_drewN | apply Kd.V_drew)); exact HO286.out) hb)
           have n8_ := Aside0.mk (Kd.R_below (by (with_reducible repeat (first | apply Kd.R_alloc | apply Kd.R_drewN | apply Kd.R_drew)); exact HO290.out) hb)
           have n9_ := Aside0.mk (blk_below (g := gb243) (o := .cells #[.int .i64 t239, .slice Ao15 t240.length co15] 27 (0, 0)) (by (with_reducible repeat (first | refine blk_drewN ?_ _ | refine blk_drew ?_ | refine blk_alloc ?_ _)); exact BK243.out) hb)
           have n10_ := Aside0.mk (blk_below (g := gb248) (o := .cells #[.int .i64 t244, .slice Ao20 t245.length co20] 27 (0, 0)) (by (with_reducible repeat (first | refine blk_drewN ?_ _ | refine blk_drew ?_ | refine blk_alloc ?_ _)); exact BK248.out) hb)
           have n11_ := Aside0.mk (blk_below (g := gb253) (o := .cells #[.int .i64 t249, .slice Ao26 t250.length co26] 27 (0, 0)) (by (with_reducible repeat (first | refine blk_drewN ?_ _ | refine blk_drew ?_ | refine blk_alloc ?_ _)); exact BK253.out) hb)
           have n12_ := Aside0.mk (blk_below (g := gb261) (o := .cells #[.int .i64 t257, .slice Ao55 t258.length co55] 27 (0, 0)) (by (with_reducible repeat (first | refine blk_drewN ?_ _ | refine blk_drew ?_ | refine blk_alloc ?_ _)); exact BK261.out) hb)
           have n13_ := Aside0.mk (blk_below (g := gb273) (o := .cells #[.int .i64 t268, .slice Ao113 t269.length co113] 27 (0, 0)) (by (with_reducible repeat (first | refine blk_drewN ?_ _ | refine blk_drew ?_ | refine blk_alloc ?_ _)); exact BK273.out) hb)
           have n14_ := Aside0.mk (below_step (by repeat (first | (with_reducible first | exact HB.out | apply below_alloc | apply pw_below_drewN | apply below_drew1 | refine below_set ?_ GE243.out | refine below_set ?_ GE248.out | refine below_set ?_ GE253.out | refine below_set ?_ GE261.out | refine below_set ?_ GE273.out) | exact HB.out)) hb)
           clear HO_244001
           clear HO_249001
           clear HO_254001
           clear HO_262001
           clear HO271
           clear HO278
           clear HO282
           clear HO286
           clear HO290
           clear BK243
           clear BK248
           clear BK253
           clear BK261
           clear BK273
           clear HB
           have HO_244001 := n0_
           have HO_249001 := n1_
           have HO_254001 := n2_
           have HO_262001 := n3_
           have HO271 := n4_
           have HO278 := n5_
           have HO282 := n6_
           have HO286 := n7_
           have HO290 := n8_
           have BK243 := n9_
           have BK248 := n10_
           have BK253 := n11_
           have BK261 := n12_
           have BK273 := n13_
           have HB := n14_
           clear n0_ n1_ n2_ n3_ n4_ n5_ n6_ n7_ n8_ n9_ n10_ n11_ n12_ n13_ n14_
           (try clear hb)
           (try clear hb2)
           (try clear hk)
           (try clear hi)
           refine hK.out _ _ ⟨(blk_cell BK261.out 0).trans rfl, (blk_cell BK261.out 1).trans rfl, (blk_cell BK253.out 0).trans rfl, (blk_cell BK253.out 1).trans rfl, (blk_cell BK243.out 0).trans rfl, (blk_cell BK243.out 1).trans rfl, (blk_cell BK248.out 0).trans rfl, (blk_cell BK248.out 1).trans rfl, (blk_cell BK273.out 0).trans rfl, (blk_cell BK273.out 1).trans rfl⟩ (fun hHeld => ?_)
           clear hK K
           refine norm_ (a' := ?_) ?_ ?_
           rotate_left
           ·show Act.put _ (some 105) _ = _
            simp only [Act.put, List.setIfInBounds_toArray, List.set_cons_zero, List.set_cons_succ, i64_w, i32_w]
            rfl
           refine pure_ (i := 13) (N := some 106) (v := ?_) (a' := ?_) #[true, true, true, true, true, true, true, true, true, true, true, true, true, true, false, false, false, false, false, false, false, false, false, false, false, false, false, false, false, false, false, false, false, false, false, false, false, false, false] rfl rfl (any_of HT_.out (by kernel_rfl)) (fun _ _ _ h => h) (Or.inl ⟨by rfl, ?_⟩) ?_ ?_
           rotate_left
           ·intro w'
            go_simp
            with_reducible rfl
           rotate_left
           ·simp only [Act.put, List.setIfInBounds_toArray, List.set_cons_zero, List.set_cons_succ, i64_w, i32_w]
            rfl
           refine pure_ (i := 14) (N := some 107) (v := ?_) (a' := ?_) #[true, true, true, true, true, true, true, true, true, true, true, true, true, true, true, false, false, false, false, false, false, false, false, false, false, false, false, false, false, false, false, false, false, false, false, false, false, false, false] rfl rfl (any_of HT_.out (by kernel_rfl)) (fun _ _ _ h => h) (Or.inl ⟨by rfl, ?_⟩) ?_ ?_
           rotate_left
           ·intro w'
            go_simp
            with_reducible rfl
           rotate_left
           ·simp only [Act.put, List.setIfInBounds_toArray, List.set_cons_zero, List.set_cons_succ, i64_w, i32_w]
            rfl
           refine take_ (i := 15) (N := some 108) (v := ?_) (a' := ?_) #[true, true, true, true, true, true, true, true, true, true, true, true, true, true, true, true, false, false, false, false, false, false, false, false, false, false, false, false, false, false, false, false, false, false, false, false, false, false, false] rfl rfl (take_ofW HT_.out HW_.out (by kernel_rfl)) (fun _ _ _ h => h) (Or.inl ⟨by rfl, ?_⟩) hHeld ?_ ?_
           rotate_left
           ·rintro w' ⟨s0, s1, s2, s3, s4, s5, s6, s7, s8, s9⟩
            go_simp
            with_reducible rfl
           rotate_left
           ·simp only [Act.put, List.setIfInBounds_toArray, List.set_cons_zero, List.set_cons_succ, i64_w, i32_w]
            rfl
           refine take_ (i := 16) (N := some 109) (v := ?_) (a' := ?_) #[true, true, true, true, true, true, true, true, true, true, true, true, true, true, true, true, true, false, false, false, false, false, false, false, false, false, false, false, false, false, false, false, false, false, false, false, false, false, false] rfl rfl (take_ofW HT_.out HW_.out (by kernel_rfl)) (fun _ _ _ h => h) (Or.inl ⟨by rfl, ?_⟩) hHeld ?_ ?_
           rotate_left
           ·rintro w' ⟨s0, s1, s2, s3, s4, s5, s6, s7, s8, s9⟩
            go_simp
            with_reducible rfl
           rotate_left
           ·simp only [Act.put, List.setIfInBounds_toArray, List.set_cons_zero, List.set_cons_succ, i64_w, i32_w]
            rfl
           refine take_ (i := 18) (N := some 111) (v := ?_) (a' := ?_) #[true, true, true, true, true, true, true, true, true, true, true, true, true, true, true, true, true, false, true, false, false, false, false, false, false, false, false, false, false, false, false, false, false, false, false, false, false, false, false] rfl rfl (take_ofW HT_.out HW_.out (by kernel_rfl)) (fun _ _ _ h => h) (Or.inl ⟨by rfl, ?_⟩) hHeld ?_ ?_
           rotate_left
           ·rintro w' ⟨s0, s1, s2, s3, s4, s5, s6, s7, s8, s9⟩
            go_simp
            with_reducible rfl
           rotate_left
           ·simp only [Act.put, List.setIfInBounds_toArray, List.set_cons_zero, List.set_cons_succ, i64_w, i32_w]
            rfl
           refine one_ (i := 17) (N := some 110) #[true, true, true, true, true, true, true, true, true, true, true, true, true, true, true, true, true, true, true, false, false, false, false, false, false, false, false, false, false, false, false, false, false, false, false, false, false, false, false] rfl rfl (one_of HT_.out (by kernel_rfl)) (by decide) (fun K hK => ?_)
           refine goes_ Try.func17 (by kernel_rfl) rfl #[.agg #[.int .i64 t239, .slice Ao15 t240.length co15], .agg #[.int .i64 t239, .slice Ao15 t240.length co15]] (by rfl) rfl rfl (by (try simp only [List.map_toArray, List.map_cons, List.map_nil]); first | done | rfl | (simp only [List.length_drop, List.length_take]; rfl)) ?_
           with_reducible refine (cell_Over.calls k2 t239 (fun k_ => some k_ = (.slice Ao15 t240.length co15 : Value).ownBlock) _ _ t240 t239 (fun k_ => some k_ = (.slice Ao15 t240.length co15 : Value).ownBlock) _ _ t240 t292 t293 _ ?side1 ?side2 A95.out).mono ?_
           (case side1 => exact Kd.R_V (Kd.R_tight rfl (Kd.R_types (Kd.R_types (Kd.R_types (Kd.R_types (Kd.R_types (Kd.R_apart' (HO_244001.out) (Kd.R_typed HO290.out) (by decide)) BK243.out (by decide)) BK248.out (by decide)) BK253.out (by decide)) BK261.out (by decide)) BK273.out (by decide))))
           (case side2 => exact Kd.R_V (Kd.R_tight rfl (Kd.R_types (Kd.R_types (Kd.R_types (Kd.R_types (Kd.R_types (Kd.R_apart' (HO_244001.out) (Kd.R_typed HO290.out) (by decide)) BK243.out (by decide)) BK248.out (by decide)) BK253.out (by decide)) BK261.out (by decide)) BK273.out (by decide))))
           rintro e w126 ⟨v294, rfl, ho0, hb⟩
           refine ⟨_, rfl, ?_⟩
           have n0_ := Aside0.mk (Kd.R_below (by (with_reducible repeat (first | apply Kd.R_alloc | apply Kd.R_drewN | apply Kd.R_drew)); exact HO_244001.out) hb)
           have n1_ := Aside0.mk (Kd.R_below (by (with_reducible repeat (first | apply Kd.R_alloc | apply Kd.R_drewN | apply Kd.R_drew)); exact HO_249001.out) hb)
           have n2_ := Aside0.mk (Kd.R_below (by (with_reducible repeat (first | apply Kd.R_alloc | apply Kd.R_drewN | apply Kd.R_drew)); exact HO_254001.out) hb)
           have n3_ := Aside0.mk (Kd.V_below (by (with_reducible repeat (first | apply Kd.V_alloc | apply Kd.V_drewN | apply Kd.V_drew)); exact HO_262001.out) hb)
           have n4_ := Aside0.mk (Kd.R_below (by (with_reducible repeat (first | apply Kd.R_alloc | apply Kd.R_drewN | apply Kd.R_drew)); exact HO271.out) hb)
           have n5_ := Aside0.mk (Kd.V_below (by (with_reducible repeat (first | apply Kd.V_alloc | apply Kd.V_drewN | apply Kd.V_drew)); exact HO278.out) hb)
           have n6_ := Aside0.mk (Kd.V_below (by (with_reducible repeat (first | apply Kd.V_alloc | apply Kd.V_drewN | apply Kd.V_drew)); exact HO282.out) hb)
           have n7_ := Aside0.mk (Kd.V_below (by (with_reducible repeat (first | apply Kd.V_alloc | apply Kd.V_drewN | apply Kd.V_drew)); exact HO286.out) hb)
           have n8_ := Aside0.mk (Kd.R_below (by (with_reducible repeat (first | apply Kd.R_alloc | apply Kd.R_drewN | apply Kd.R_drew)); exact HO290.out) hb)
           have n9_ := Aside0.mk (Kd.V_lower (Kd.V_mono (ok' := fun k_ => some k_ ≠ (.slice Ao20 t245.length co20 : Value).ownBlock ∧ some k_ ≠ (.slice Ao26 t250.length co26 : Value).ownBlock ∧ some k_ ≠ (.slice Ao113 t269.length co113 : Value).ownBlock ∧ some k_ ≠ (.slice Ao124 t288.length co124 : Value).ownBlock ∧ k_ ≠ gb243 ∧ k_ ≠ gb248 ∧ k_ ≠ gb253 ∧ k_ ≠ gb261 ∧ k_ ≠ gb273) ho0 (fun k_ hk_ => ⟨Or.elim hk_ (fun hs_ => Or.elim hs_ (fun hs_ => ((Kd.R_types (Kd.R_types (Kd.R_types (Kd.R_types (Kd.R_types (Kd.R_apart' (HO_244001.out) (Kd.R_typed HO290.out) (by decide)) BK243.out (by decide)) BK248.out (by decide)) BK253.out (by decide)) BK261.out (by decide)) BK273.out (by decide)).1 k_ hs_.symm).1.1.1.1.1.1.1) (fun hs_ => ((Kd.R_types (Kd.R_types (Kd.R_types (Kd.R_types (Kd.R_types (Kd.R_apart' (HO_244001.out) (Kd.R_typed HO290.out) (by decide)) BK243.out (by decide)) BK248.out (by decide)) BK253.out (by decide)) BK261.out (by decide)) BK273.out (by decide)).1 k_ hs_.symm).1.1.1.1.1.1.1)) (fun hn_ => (Kd.fresh' (Kd.R_lt (by (with_reducible repeat (first | apply Kd.R_alloc | apply Kd.R_drewN | apply Kd.R_drew)); exact HO_249001.out)) k_ hn_)), Or.elim hk_ (fun hs_ => Or.elim hs_ (fun hs_ => ((Kd.R_types (Kd.R_types (Kd.R_types (Kd.R_types (Kd.R_types (Kd.R_apart' (HO_244001.out) (Kd.R_typed HO290.out) (by decide)) BK243.out (by decide)) BK248.out (by decide)) BK253.out (by decide)) BK261.out (by decide)) BK273.out (by decide)).1 k_ hs_.symm).1.1.1.1.1.1.2.1) (fun hs_ => ((Kd.R_types (Kd.R_types (Kd.R_types (Kd.R_types (Kd.R_types (Kd.R_apart' (HO_244001.out) (Kd.R_typed HO290.out) (by decide)) BK243.out (by decide)) BK248.out (by decide)) BK253.out (by decide)) BK261.out (by decide)) BK273.out (by decide)).1 k_ hs_.symm).1.1.1.1.1.1.2.1)) (fun hn_ => (Kd.fresh' (Kd.R_lt (by (with_reducible repeat (first | apply Kd.R_alloc | apply Kd.R_drewN | apply Kd.R_drew)); exact HO_254001.out)) k_ hn_)), Or.elim hk_ (fun hs_ => Or.elim hs_ (fun hs_ => ((Kd.R_types (Kd.R_types (Kd.R_types (Kd.R_types (Kd.R_types (Kd.R_apart' (HO_244001.out) (Kd.R_typed HO290.out) (by decide)) BK243.out (by decide)) BK248.out (by decide)) BK253.out (by decide)) BK261.out (by decide)) BK273.out (by decide)).1 k_ hs_.symm).1.1.1.1.1.1.2.2) (fun hs_ => ((Kd.R_types (Kd.R_types (Kd.R_types (Kd.R_types (Kd.R_types (Kd.R_apart' (HO_244001.out) (Kd.R_typed HO290.out) (by decide)) BK243.out (by decide)) BK248.out (by decide)) BK253.out (by decide)) BK261.out (by decide)) BK273.out (by decide)).1 k_ hs_.symm).1.1.1.1.1.1.2.2)) (fun hn_ => (Kd.fresh' (Kd.R_lt (by (with_reducible repeat (first | apply Kd.R_alloc | apply Kd.R_drewN | apply Kd.R_drew)); exact HO271.out)) k_ hn_)), Or.elim hk_ (fun hs_ => Or.elim hs_ (fun hs_ => ((Kd.R_types (Kd.R_types (Kd.R_types (Kd.R_types (Kd.R_types (Kd.R_apart' (HO_244001.out) (Kd.R_typed HO290.out) (by decide)) BK243.out (by decide)) BK248.out (by decide)) BK253.out (by decide)) BK261.out (by decide)) BK273.out (by decide)).1 k_ hs_.symm).1.1.1.1.1.2) (fun hs_ => ((Kd.R_types (Kd.R_types (Kd.R_types (Kd.R_types (Kd.R_types (Kd.R_apart' (HO_244001.out) (Kd.R_typed HO290.out) (by decide)) BK243.out (by decide)) BK248.out (by decide)) BK253.out (by decide)) BK261.out (by decide)) BK273.out (by decide)).1 k_ hs_.symm).1.1.1.1.1.2)) (fun hn_ => (Kd.fresh' (Kd.R_lt (by (with_reducible repeat (first | apply Kd.R_alloc | apply Kd.R_drewN | apply Kd.R_drew)); exact HO290.out)) k_ hn_)), Or.elim hk_ (fun hs_ => Or.elim hs_ (fun hs_ => ((Kd.R_types (Kd.R_types (Kd.R_types (Kd.R_types (Kd.R_types (Kd.R_apart' (HO_244001.out) (Kd.R_typed HO290.out) (by decide)) BK243.out (by decide)) BK248.out (by decide)) BK253.out (by decide)) BK261.out (by decide)) BK273.out (by decide)).1 k_ hs_.symm).1.1.1.1.2) (fun hs_ => ((Kd.R_types (Kd.R_types (Kd.R_types (Kd.R_types (Kd.R_types (Kd.R_apart' (HO_244001.out) (Kd.R_typed HO290.out) (by decide)) BK243.out (by decide)) BK248.out (by decide)) BK253.out (by decide)) BK261.out (by decide)) BK273.out (by decide)).1 k_ hs_.symm).1.1.1.1.2)) (fun hn_ => (Kd.freshB (g := gb243) (o := .cells #[.int .i64 t239, .slice Ao15 t240.length co15] 27 (0, 0)) (by (with_reducible repeat (first | refine blk_drewN ?_ _ | refine blk_drew ?_ | refine blk_alloc ?_ _)); exact BK243.out) k_ hn_)), Or.elim hk_ (fun hs_ => Or.elim hs_ (fun hs_ => ((Kd.R_types (Kd.R_types (Kd.R_types (Kd.R_types (Kd.R_types (Kd.R_apart' (HO_244001.out) (Kd.R_typed HO290.out) (by decide)) BK243.out (by decide)) BK248.out (by decide)) BK253.out (by decide)) BK261.out (by decide)) BK273.out (by decide)).1 k_ hs_.symm).1.1.1.2) (fun hs_ => ((Kd.R_types (Kd.R_types (Kd.R_types (Kd.R_types (Kd.R_types (Kd.R_apart' (HO_244001.out) (Kd.R_typed HO290.out) (by decide)) BK243.out (by decide)) BK248.out (by decide)) BK253.out (by decide)) BK261.out (by decide)) BK273.out (by decide)).1 k_ hs_.symm).1.1.1.2)) (fun hn_ => (Kd.freshB (g := gb248) (o := .cells #[.int .i64 t244, .slice Ao20 t245.length co20] 27 (0, 0)) (by (with_reducible repeat (first | refine blk_drewN ?_ _ | refine blk_drew ?_ | refine blk_alloc ?_ _)); exact BK248.out) k_ hn_)), Or.elim hk_ (fun hs_ => Or.elim hs_ (fun hs_ => ((Kd.R_types (Kd.R_types (Kd.R_types (Kd.R_types (Kd.R_types (Kd.R_apart' (HO_244001.out) (Kd.R_typed HO290.out) (by decide)) BK243.out (by decide)) BK248.out (by decide)) BK253.out (by decide)) BK261.out (by decide)) BK273.out (by decide)).1 k_ hs_.symm).1.1.2) (fun hs_ => ((Kd.R_types (Kd.R_types (Kd.R_types (Kd.R_types (Kd.R_types (Kd.R_apart' (HO_244001.out) (Kd.R_typed HO290.out) (by decide)) BK243.out (by decide)) BK248.out (by decide)) BK253.out (by decide)) BK261.out (by decide)) BK273.out (by decide)).1 k_ hs_.symm).1.1.2)) (fun hn_ => (Kd.freshB (g := gb253) (o := .cells #[.int .i64 t249, .slice Ao26 t250.length co26] 27 (0, 0)) (by (with_reducible repeat (first | refine blk_drewN ?_ _ | refine blk_drew ?_ | refine blk_alloc ?_ _)); exact BK253.out) k_ hn_)), Or.elim hk_ (fun hs_ => Or.elim hs_ (fun hs_ => ((Kd.R_types (Kd.R_types (Kd.R_types (Kd.R_types (Kd.R_types (Kd.R_apart' (HO_244001.out) (Kd.R_typed HO290.out) (by decide)) BK243.out (by decide)) BK248.out (by decide)) BK253.out (by decide)) BK261.out (by decide)) BK273.out (by decide)).1 k_ hs_.symm).1.2) (fun hs_ => ((Kd.R_types (Kd.R_types (Kd.R_types (Kd.R_types (Kd.R_types (Kd.R_apart' (HO_244001.out) (Kd.R_typed HO290.out) (by decide)) BK243.out (by decide)) BK248.out (by decide)) BK253.out (by decide)) BK261.out (by decide)) BK273.out (by decide)).1 k_ hs_.symm).1.2)) (fun hn_ => (Kd.freshB (g := gb261) (o := .cells #[.int .i64 t257, .slice Ao55 t258.length co55] 27 (0, 0)) (by (with_reducible repeat (first | refine blk_drewN ?_ _ | refine blk_drew ?_ | refine blk_alloc ?_ _)); exact BK261.out) k_ hn_)), Or.elim hk_ (fun hs_ => Or.elim hs_ (fun hs_ => ((Kd.R_types (Kd.R_types (Kd.R_types (Kd.R_types (Kd.R_types (Kd.R_apart' (HO_244001.out) (Kd.R_typed HO290.out) (by decide)) BK243.out (by decide)) BK248.out (by decide)) BK253.out (by decide)) BK261.out (by decide)) BK273.out (by decide)).1 k_ hs_.symm).2) (fun hs_ => ((Kd.R_types (Kd.R_types (Kd.R_types (Kd.R_types (Kd.R_types (Kd.R_apart' (HO_244001.out) (Kd.R_typed HO290.out) (by decide)) BK243.out (by decide)) BK248.out (by decide)) BK253.out (by decide)) BK261.out (by decide)) BK273.out (by decide)).1 k_ hs_.symm).2)) (fun hn_ => (Kd.freshB (g := gb273) (o := .cells #[.int .i64 t268, .slice Ao113 t269.length co113] 27 (0, 0)) (by (with_reducible repeat (first | refine blk_drewN ?_ _ | refine blk_drew ?_ | refine blk_alloc ?_ _)); exact BK273.out) k_ hn_))⟩)) (below_size (by repeat (first | (with_reducible first | exact HB.out | apply below_alloc | apply pw_below_drewN | apply below_drew1 | refine below_set ?_ GE243.out | refine below_set ?_ GE248.out | refine below_set ?_ GE253.out | refine below_set ?_ GE261.out | refine below_set ?_ GE273.out) | exact HB.out))))
           have n10_ := Aside0.mk (blk_below (g := gb243) (o := .cells #[.int .i64 t239, .slice Ao15 t240.length co15] 27 (0, 0)) (by (with_reducible repeat (first | refine blk_drewN ?_ _ | refine blk_drew ?_ | refine blk_alloc ?_ _)); exact BK243.out) hb)
           have n11_ := Aside0.mk (blk_below (g := gb248) (o := .cells #[.int .i64 t244, .slice Ao20 t245.length co20] 27 (0, 0)) (by (with_reducible repeat (first | refine blk_drewN ?_ _ | refine blk_drew ?_ | refine blk_alloc ?_ _)); exact BK248.out) hb)
           have n12_ := Aside0.mk (blk_below (g := gb253) (o := .cells #[.int .i64 t249, .slice Ao26 t250.length co26] 27 (0, 0)) (by (with_reducible repeat (first | refine blk_drewN ?_ _ | refine blk_drew ?_ | refine blk_alloc ?_ _)); exact BK253.out) hb)
           have n13_ := Aside0.mk (blk_below (g := gb261) (o := .cells #[.int .i64 t257, .slice Ao55 t258.length co55] 27 (0, 0)) (by (with_reducible repeat (first | refine blk_drewN ?_ _ | refine blk_drew ?_ | refine blk_alloc ?_ _)); exact BK261.out) hb)
           have n14_ := Aside0.mk (blk_below (g := gb273) (o := .cells #[.int .i64 t268, .slice Ao113 t269.length co113] 27 (0, 0)) (by (with_reducible repeat (first | refine blk_drewN ?_ _ | refine blk_drew ?_ | refine blk_alloc ?_ _)); exact BK273.out) hb)
           have n15_ := Aside0.mk (below_step (by repeat (first | (with_reducible first | exact HB.out | apply below_alloc | apply pw_below_drewN | apply below_drew1 | refine below_set ?_ GE243.out | refine below_set ?_ GE248.out | refine below_set ?_ GE253.out | refine below_set ?_ GE261.out | refine below_set ?_ GE273.out) | exact HB.out)) hb)
           clear HO_244001
           clear HO_249001
           clear HO_254001
           clear HO_262001
           clear HO271
           clear HO278
           clear HO282
           clear HO286
           clear HO290
           clear BK243
           clear BK248
           clear BK253
           clear BK261
           clear BK273
           clear HB
           have HO_244001 := n0_
           have HO_249001 := n1_
           have HO_254001 := n2_
           have HO_262001 := n3_
           have HO271 := n4_
           have HO278 := n5_
           have HO282 := n6_
           have HO286 := n7_
           have HO290 := n8_
           have HO295 := n9_
           have BK243 := n10_
           have BK248 := n11_
           have BK253 := n12_
           have BK261 := n13_
           have BK273 := n14_
           have HB := n15_
           clear n0_ n1_ n2_ n3_ n4_ n5_ n6_ n7_ n8_ n9_ n10_ n11_ n12_ n13_ n14_ n15_
           (try clear hb)
           (try clear hb2)
           (try clear hk)
           (try clear hi)
           (try clear ho0)
           refine hK.out _ _ ⟨(blk_cell BK261.out 0).trans rfl, (blk_cell BK261.out 1).trans rfl, (blk_cell BK253.out 0).trans rfl, (blk_cell BK253.out 1).trans rfl, (blk_cell BK243.out 0).trans rfl, (blk_cell BK243.out 1).trans rfl, (blk_cell BK248.out 0).trans rfl, (blk_cell BK248.out 1).trans rfl, (blk_cell BK273.out 0).trans rfl, (blk_cell BK273.out 1).trans rfl⟩ (fun hHeld => ?_)
           clear hK K
           refine norm_ (a' := ?_) ?_ ?_
           rotate_left
           ·show Act.put _ (some 110) _ = _
            simp only [Act.put, List.setIfInBounds_toArray, List.set_cons_zero, List.set_cons_succ, i64_w, i32_w]
            rfl
           refine one_ (i := 19) (N := some 112) #[true, true, true, true, true, true, true, true, true, true, true, true, true, true, true, true, true, true, true, true, false, false, false, false, false, false, false, false, false, false, false, false, false, false, false, false, false, false, false] rfl rfl (one_of HT_.out (by kernel_rfl)) (by decide) (fun K hK => ?_)
           refine goes_ Try.func19 (by kernel_rfl) rfl #[.agg #[.int .i64 t239, .slice Ao15 t240.length co15]] (by rfl) rfl rfl (by (try simp only [List.map_toArray, List.map_cons, List.map_nil]); first | done | rfl | (simp only [List.length_drop, List.length_take]; rfl)) ?_
           with_reducible refine (rootcellarlaw9_as.calls k2 t239 _ _ t240 t296 t297 _ ?side1 ?side2 A96.out).mono ?_
           (case side1 => repeat (first | exact (Kd.R_reads' HO_244001.out).2.2 | (with_reducible refine Kd.C_alloc ?_ _) | (with_reducible refine Kd.C_drewN ?_ _) | (with_reducible refine Kd.C_drew ?_)))
           (case side2 => exact (Kd.R_reads' HO_244001.out).2.1)
           rintro e w127 ⟨v298, rfl, ho0, hb⟩
           refine ⟨_, rfl, ?_⟩
           have n0_ := Aside0.mk (Kd.R_below (by (with_reducible repeat (first | apply Kd.R_alloc | apply Kd.R_drewN | apply Kd.R_drew)); exact HO_244001.out) hb)
           have n1_ := Aside0.mk (Kd.R_below (by (with_reducible repeat (first | apply Kd.R_alloc | apply Kd.R_drewN | apply Kd.R_drew)); exact HO_249001.out) hb)
           have n2_ := Aside0.mk (Kd.R_below (by (with_reducible repeat (first | apply Kd.R_alloc | apply Kd.R_drewN | apply Kd.R_drew)); exact HO_254001.out) hb)
           have n3_ := Aside0.mk (Kd.V_elder' (by (with_reducible repeat (first | apply Kd.V_alloc | apply Kd.V_drewN | apply Kd.V_drew)); exact HO_262001.out) (Kd.R_base ho0) hb)
           have n4_ := Aside0.mk (Kd.R_below (by (with_reducible repeat (first | apply Kd.R_alloc | apply Kd.R_drewN | apply Kd.R_drew)); exact HO271.out) hb)
           have n5_ := Aside0.mk (Kd.V_elder' (by (with_reducible repeat (first | apply Kd.V_alloc | apply Kd.V_drewN | apply Kd.V_drew)); exact HO278.out) (Kd.R_base ho0) hb)
           have n6_ := Aside0.mk (Kd.V_elder' (by (with_reducible repeat (first | apply Kd.V_alloc | apply Kd.V_drewN | apply Kd.V_drew)); exact HO282.out) (Kd.R_base ho0) hb)
           have n7_ := Aside0.mk (Kd.V_elder' (by (with_reducible repeat (first | apply Kd.V_alloc | apply Kd.V_drewN | apply Kd.V_drew)); exact HO286.out) (Kd.R_base ho0) hb)
           have n8_ := Aside0.mk (Kd.R_elder' (by (with_reducible repeat (first | apply Kd.R_alloc | apply Kd.R_drewN | apply Kd.R_drew)); exact HO290.out) (Kd.R_base ho0) hb)
           have n9_ := Aside0.mk (Kd.V_elder' (by (with_reducible repeat (first | apply Kd.V_alloc | apply Kd.V_drewN | apply Kd.V_drew)); exact HO295.out) (Kd.R_base ho0) hb)
           have n10_ := Aside0.mk (Kd.R_lower (Kd.R_new' ho0 (Kd.R_lt (by (with_reducible repeat (first | apply Kd.R_alloc | apply Kd.R_drewN | apply Kd.R_drew)); exact HO290.out))) (below_size (by repeat (first | (with_reducible first | exact HB.out | apply below_alloc | apply pw_below_drewN | apply below_drew1 | refine below_set ?_ GE243.out | refine below_set ?_ GE248.out | refine below_set ?_ GE253.out | refine below_set ?_ GE261.out | refine below_set ?_ GE273.out) | exact HB.out))))
           have n11_ := Aside0.mk (blk_below (g := gb243) (o := .cells #[.int .i64 t239, .slice Ao15 t240.length co15] 27 (0, 0)) (by (with_reducible repeat (first | refine blk_drewN ?_ _ | refine blk_drew ?_ | refine blk_alloc ?_ _)); exact BK243.out) hb)
           have n12_ := Aside0.mk (blk_below (g := gb248) (o := .cells #[.int .i64 t244, .slice Ao20 t245.length co20] 27 (0, 0)) (by (with_reducible repeat (first | refine blk_drewN ?_ _ | refine blk_drew ?_ | refine blk_alloc ?_ _)); exact BK248.out) hb)
           have n13_ := Aside0.mk (blk_below (g := gb253) (o := .cells #[.int .i64 t249, .slice Ao26 t250.length co26] 27 (0, 0)) (by (with_reducible repeat (first | refine blk_drewN ?_ _ | refine blk_drew ?_ | refine blk_alloc ?_ _)); exact BK253.out) hb)
           have n14_ := Aside0.mk (blk_below (g := gb261) (o := .cells #[.int .i64 t257, .slice Ao55 t258.length co55] 27 (0, 0)) (by (with_reducible repeat (first | refine blk_drewN ?_ _ | refine blk_drew ?_ | refine blk_alloc ?_ _)); exact BK261.out) hb)
           have n15_ := Aside0.mk (blk_below (g := gb273) (o := .cells #[.int .i64 t268, .slice Ao113 t269.length co113] 27 (0, 0)) (by (with_reducible repeat (first | refine blk_drewN ?_ _ | refine blk_drew ?_ | refine blk_alloc ?_ _)); exact BK273.out) hb)
           have n16_ := Aside0.mk (below_step (by repeat (first | (with_reducible first | exact HB.out | apply below_alloc | apply pw_below_drewN | apply below_drew1 | refine below_set ?_ GE243.out | refine below_set ?_ GE248.out | refine below_set ?_ GE253.out | refine below_set ?_ GE261.out | refine below_set ?_ GE273.out) | exact HB.out)) hb)
           clear HO_244001
           clear HO_249001
           clear HO_254001
           clear HO_262001
           clear HO271
           clear HO278
           clear HO282
           clear HO286
           clear HO290
           clear HO295
           clear BK243
           clear BK248
           clear BK253
           clear BK261
           clear BK273
           clear HB
           have HO_244001 := n0_
           have HO_249001 := n1_
           have HO_254001 := n2_
           have HO_262001 := n3_
           have HO271 := n4_
           have HO278 := n5_
           have HO282 := n6_
           have HO286 := n7_
           have HO290 := n8_
           have HO295 := n9_
           have HO299 := n10_
           have BK243 := n11_
           have BK248 := n12_
           have BK253 := n13_
           have BK261 := n14_
           have BK273 := n15_
           have HB := n16_
           clear n0_ n1_ n2_ n3_ n4_ n5_ n6_ n7_ n8_ n9_ n10_ n11_ n12_ n13_ n14_ n15_ n16_
           (try clear hb)
           (try clear hb2)
           (try clear hk)
           (try clear hi)
           (try clear ho0)
           obtain ⟨Ao128, co128, eo128⟩ := Kd.V_slice HO295.out
           (first | subst eo128 | (injection eo128 with f1_ f2_ f3_; have f4_ := f1_.symm; have f5_ := f3_.symm; clear f1_ f2_ f3_; subst f4_; subst f5_))
           obtain ⟨Ao129, co129, eo129⟩ := Kd.R_slice HO299.out
           (first | subst eo129 | (injection eo129 with f1_ f2_ f3_; have f4_ := f1_.symm; have f5_ := f3_.symm; clear f1_ f2_ f3_; subst f4_; subst f5_))
           refine hK.out _ _ ⟨(blk_cell BK261.out 0).trans rfl, (blk_cell BK261.out 1).trans rfl, (blk_cell BK253.out 0).trans rfl, (blk_cell BK253.out 1).trans rfl, (blk_cell BK243.out 0).trans rfl, (blk_cell BK243.out 1).trans rfl, (blk_cell BK248.out 0).trans rfl, (blk_cell BK248.out 1).trans rfl, (blk_cell BK273.out 0).trans rfl, (blk_cell BK273.out 1).trans rfl⟩ (fun hHeld => ?_)
           clear hK K
           refine norm_ (a' := ?_) ?_ ?_
           rotate_left
           ·show Act.put _ (some 112) _ = _
            simp only [Act.put, List.setIfInBounds_toArray, List.set_cons_zero, List.set_cons_succ, i64_w, i32_w]
            rfl
           refine one_ (i := 20) (N := some 113) #[true, true, true, true, true, true, true, true, true, true, true, true, true, true, true, true, true, true, true, true, true, false, false, false, false, false, false, false, false, false, false, false, false, false, false, false, false, false, false] rfl rfl (one_of HT_.out (by kernel_rfl)) (by decide) (fun K hK => ?_)
           refine goes_ Try.func18 (by kernel_rfl) rfl #[.agg #[.int .i64 t292, .slice Ao128 t293.length co128], .agg #[.int .i64 t296, .slice Ao129 t297.length co129]] (by rfl) rfl rfl (by (try simp only [List.map_toArray, List.map_cons, List.map_nil]); first | done | rfl | (simp only [List.length_drop, List.length_take]; rfl)) ?_
           with_reducible refine (rootcellarlaw9_same.calls k2 t292 _ _ t293 t296 _ _ t297 true _ ?side1 ?side2 ?side3 ?side4 A97.out).mono ?_
           (case side1 => repeat (first | exact (Kd.V_reads' HO295.out).2.2 | (with_reducible refine Kd.C_alloc ?_ _) | (with_reducible refine Kd.C_drewN ?_ _) | (with_reducible refine Kd.C_drew ?_)))
           (case side2 => exact (Kd.V_reads' HO295.out).2.1)
           (case side3 => repeat (first | exact (Kd.R_reads' HO299.out).2.2 | (with_reducible refine Kd.C_alloc ?_ _) | (with_reducible refine Kd.C_drewN ?_ _) | (with_reducible refine Kd.C_drew ?_)))
           (case side4 => exact (Kd.R_reads' HO299.out).2.1)
           rintro e w130 ⟨rfl, hb⟩
           refine ⟨_, rfl, ?_⟩
           have n0_ := Aside0.mk (Kd.R_below (by (with_reducible repeat (first | apply Kd.R_alloc | apply Kd.R_drewN | apply Kd.R_drew)); exact HO_244001.out) hb)
           have n1_ := Aside0.mk (Kd.R_below (by (with_reducible repeat (first | apply Kd.R_alloc | apply Kd.R_drewN | apply Kd.R_drew)); exact HO_249001.out) hb)
           have n2_ := Aside0.mk (Kd.R_below (by (with_reducible repeat (first | apply Kd.R_alloc | apply Kd.R_drewN | apply Kd.R_drew)); exact HO_254001.out) hb)
           have n3_ := Aside0.mk (Kd.V_below (by (with_reducible repeat (first | apply Kd.V_alloc | apply Kd.V_drewN | apply Kd.V_drew)); exact HO_262001.out) hb)
           have n4_ := Aside0.mk (Kd.R_below (by (with_reducible repeat (first | apply Kd.R_alloc | apply Kd.R_drewN | apply Kd.R_drew)); exact HO271.out) hb)
           have n5_ := Aside0.mk (Kd.V_below (by (with_reducible repeat (first | apply Kd.V_alloc | apply Kd.V_drewN | apply Kd.V_drew)); exact HO278.out) hb)
           have n6_ := Aside0.mk (Kd.V_below (by (with_reducible repeat (first | apply Kd.V_alloc | apply Kd.V_drewN | apply Kd.V_drew)); exact HO282.out) hb)
           have n7_ := Aside0.mk (Kd.V_below (by (with_reducible repeat (first | apply Kd.V_alloc | apply Kd.V_drewN | apply Kd.V_drew)); exact HO286.out) hb)
           have n8_ := Aside0.mk (Kd.R_below (by (with_reducible repeat (first | apply Kd.R_alloc | apply Kd.R_drewN | apply Kd.R_drew)); exact HO290.out) hb)
           have n9_ := Aside0.mk (Kd.V_below (by (with_reducible repeat (first | apply Kd.V_alloc | apply Kd.V_drewN | apply Kd.V_drew)); exact HO295.out) hb)
           have n10_ := Aside0.mk (Kd.R_below (by (with_reducible repeat (first | apply Kd.R_alloc | apply Kd.R_drewN | apply Kd.R_drew)); exact HO299.out) hb)
           have n11_ := Aside0.mk (blk_below (g := gb243) (o := .cells #[.int .i64 t239, .slice Ao15 t240.length co15] 27 (0, 0)) (by (with_reducible repeat (first | refine blk_drewN ?_ _ | refine blk_drew ?_ | refine blk_alloc ?_ _)); exact BK243.out) hb)
           have n12_ := Aside0.mk (blk_below (g := gb248) (o := .cells #[.int .i64 t244, .slice Ao20 t245.length co20] 27 (0, 0)) (by (with_reducible repeat (first | refine blk_drewN ?_ _ | refine blk_drew ?_ | refine blk_alloc ?_ _)); exact BK248.out) hb)
           have n13_ := Aside0.mk (blk_below (g := gb253) (o := .cells #[.int .i64 t249, .slice Ao26 t250.length co26] 27 (0, 0)) (by (with_reducible repeat (first | refine blk_drewN ?_ _ | refine blk_drew ?_ | refine blk_alloc ?_ _)); exact BK253.out) hb)
           have n14_ := Aside0.mk (blk_below (g := gb261) (o := .cells #[.int .i64 t257, .slice Ao55 t258.length co55] 27 (0, 0)) (by (with_reducible repeat (first | refine blk_drewN ?_ _ | refine blk_drew ?_ | refine blk_alloc ?_ _)); exact BK261.out) hb)
           have n15_ := Aside0.mk (blk_below (g := gb273) (o := .cells #[.int .i64 t268, .slice Ao113 t269.length co113] 27 (0, 0)) (by (with_reducible repeat (first | refine blk_drewN ?_ _ | refine blk_drew ?_ | refine blk_alloc ?_ _)); exact BK273.out) hb)
           have n16_ := Aside0.mk (below_step (by repeat (first | (with_reducible first | exact HB.out | apply below_alloc | apply pw_below_drewN | apply below_drew1 | refine below_set ?_ GE243.out | refine below_set ?_ GE248.out | refine below_set ?_ GE253.out | refine below_set ?_ GE261.out | refine below_set ?_ GE273.out) | exact HB.out)) hb)
           clear HO_244001
           clear HO_249001
           clear HO_254001
           clear HO_262001
           clear HO271
           clear HO278
           clear HO282
           clear HO286
           clear HO290
           clear HO295
           clear HO299
           clear BK243
           clear BK248
           clear BK253
           clear BK261
           clear BK273
           clear HB
           have HO_244001 := n0_
           have HO_249001 := n1_
           have HO_254001 := n2_
           have HO_262001 := n3_
           have HO271 := n4_
           have HO278 := n5_
           have HO282 := n6_
           have HO286 := n7_
           have HO290 := n8_
           have HO295 := n9_
           have HO299 := n10_
           have BK243 := n11_
           have BK248 := n12_
           have BK253 := n13_
           have BK261 := n14_
           have BK273 := n15_
           have HB := n16_
           clear n0_ n1_ n2_ n3_ n4_ n5_ n6_ n7_ n8_ n9_ n10_ n11_ n12_ n13_ n14_ n15_ n16_
           (try clear hb)
           (try clear hb2)
           (try clear hk)
           (try clear hi)
           refine hK.out _ _ ⟨(blk_cell BK261.out 0).trans rfl, (blk_cell BK261.out 1).trans rfl, (blk_cell BK253.out 0).trans rfl, (blk_cell BK253.out 1).trans rfl, (blk_cell BK243.out 0).trans rfl, (blk_cell BK243.out 1).trans rfl, (blk_cell BK248.out 0).trans rfl, (blk_cell BK248.out 1).trans rfl, (blk_cell BK273.out 0).trans rfl, (blk_cell BK273.out 1).trans rfl⟩ (fun hHeld => ?_)
           clear hK K
           refine norm_ (a' := ?_) ?_ ?_
           rotate_left
           ·show Act.put _ (some 113) _ = _
            simp only [Act.put, List.setIfInBounds_toArray, List.set_cons_zero, List.set_cons_succ, i64_w, i32_w]
            rfl
           refine pure_ (i := 21) (N := some 114) (v := ?_) (a' := ?_) #[true, true, true, true, true, true, true, true, true, true, true, true, true, true, true, true, true, true, true, true, true, true, false, false, false, false, false, false, false, false, false, false, false, false, false, false, false, false, false] rfl rfl (any_of HT_.out (by kernel_rfl)) (fun _ _ _ h => h) (Or.inl ⟨by rfl, ?_⟩) ?_ ?_
           rotate_left
           ·intro w'
            go_simp
            with_reducible rfl
           rotate_left
           ·simp only [Act.put, List.setIfInBounds_toArray, List.set_cons_zero, List.set_cons_succ, i64_w, i32_w]
            rfl
           refine pure_ (i := 22) (N := some 115) (v := ?_) (a' := ?_) #[true, true, true, true, true, true, true, true, true, true, true, true, true, true, true, true, true, true, true, true, true, true, true, false, false, false, false, false, false, false, false, false, false, false, false, false, false, false, false] rfl rfl (any_of HT_.out (by kernel_rfl)) (fun _ _ _ h => h) (Or.inl ⟨by rfl, ?_⟩) ?_ ?_
           rotate_left
           ·intro w'
            go_simp
            with_reducible rfl
           rotate_left
           ·simp only [Act.put, List.setIfInBounds_toArray, List.set_cons_zero, List.set_cons_succ, i64_w, i32_w]
            rfl
           refine take_ (i := 23) (N := some 116) (v := ?_) (a' := ?_) #[true, true, true, true, true, true, true, true, true, true, true, true, true, true, true, true, true, true, true, true, true, true, true, true, false, false, false, false, false, false, false, false, false, false, false, false, false, false, false] rfl rfl (take_ofW HT_.out HW_.out (by kernel_rfl)) (fun _ _ _ h => h) (Or.inl ⟨by rfl, ?_⟩) hHeld ?_ ?_
           rotate_left
           ·rintro w' ⟨s0, s1, s2, s3, s4, s5, s6, s7, s8, s9⟩
            go_simp
            with_reducible rfl
           rotate_left
           ·simp only [Act.put, List.setIfInBounds_toArray, List.set_cons_zero, List.set_cons_succ, i64_w, i32_w]
            rfl
           refine take_ (i := 24) (N := some 117) (v := ?_) (a' := ?_) #[true, true, true, true, true, true, true, true, true, true, true, true, true, true, true, true, true, true, true, true, true, true, true, true, true, false, false, false, false, false, false, false, false, false, false, false, false, false, false] rfl rfl (take_ofW HT_.out HW_.out (by kernel_rfl)) (fun _ _ _ h => h) (Or.inl ⟨by rfl, ?_⟩) hHeld ?_ ?_
           rotate_left
           ·rintro w' ⟨s0, s1, s2, s3, s4, s5, s6, s7, s8, s9⟩
            go_simp
            with_reducible rfl
           rotate_left
           ·simp only [Act.put, List.setIfInBounds_toArray, List.set_cons_zero, List.set_cons_succ, i64_w, i32_w]
            rfl
           refine take_ (i := 26) (N := some 119) (v := ?_) (a' := ?_) #[true, true, true, true, true, true, true, true, true, true, true, true, true, true, true, true, true, true, true, true, true, true, true, true, true, false, true, false, false, false, false, false, false, false, false, false, false, false, false] rfl rfl (take_ofW HT_.out HW_.out (by kernel_rfl)) (fun _ _ _ h => h) (Or.inl ⟨by rfl, ?_⟩) hHeld ?_ ?_
           rotate_left
           ·rintro w' ⟨s0, s1, s2, s3, s4, s5, s6, s7, s8, s9⟩
            go_simp
            with_reducible rfl
           rotate_left
           ·simp only [Act.put, List.setIfInBounds_toArray, List.set_cons_zero, List.set_cons_succ, i64_w, i32_w]
            rfl
           refine one_ (i := 25) (N := some 118) #[true, true, true, true, true, true, true, true, true, true, true, true, true, true, true, true, true, true, true, true, true, true, true, true, true, true, true, false, false, false, false, false, false, false, false, false, false, false, false] rfl rfl (one_of HT_.out (by kernel_rfl)) (by decide) (fun K hK => ?_)
           refine goes_ Try.func17 (by kernel_rfl) rfl #[.agg #[.int .i64 t239, .slice Ao15 t240.length co15], .agg #[.int .i64 t268, .slice Ao113 t269.length co113]] (by rfl) rfl rfl (by (try simp only [List.map_toArray, List.map_cons, List.map_nil]); first | done | rfl | (simp only [List.length_drop, List.length_take]; rfl)) ?_
           with_reducible refine (cell_Over.calls k2 t239 (fun k_ => some k_ = (.slice Ao15 t240.length co15 : Value).ownBlock) _ _ t240 t268 (fun k_ => some k_ = (.slice Ao113 t269.length co113 : Value).ownBlock) _ _ t269 t301 t302 _ ?side1 ?side2 A99.out).mono ?_
           (case side1 => exact Kd.R_V (Kd.R_tight rfl (Kd.R_types (Kd.R_types (Kd.R_types (Kd.R_types (Kd.R_types (Kd.R_apart' (Kd.R_apart' (HO_244001.out) (Kd.R_typed HO290.out) (by decide)) (Kd.R_typed HO299.out) (by decide)) BK243.out (by decide)) BK248.out (by decide)) BK253.out (by decide)) BK261.out (by decide)) BK273.out (by decide))))
           (case side2 => exact Kd.R_V (Kd.R_tight rfl (Kd.R_types (Kd.R_types (Kd.R_types (Kd.R_types (Kd.R_types (Kd.R_apart' (Kd.R_apart' (HO271.out) (Kd.R_typed HO290.out) (by decide)) (Kd.R_typed HO299.out) (by decide)) BK243.out (by decide)) BK248.out (by decide)) BK253.out (by decide)) BK261.out (by decide)) BK273.out (by decide))))
           rintro e w131 ⟨v303, rfl, ho0, hb⟩
           refine ⟨_, rfl, ?_⟩
           have n0_ := Aside0.mk (Kd.R_below (by (with_reducible repeat (first | apply Kd.R_alloc | apply Kd.R_drewN | apply Kd.R_drew)); exact HO_244001.out) hb)
           have n1_ := Aside0.mk (Kd.R_below (by (with_reducible repeat (first | apply Kd.R_alloc | apply Kd.R_drewN | apply Kd.R_drew)); exact HO_249001.out) hb)
           have n2_ := Aside0.mk (Kd.R_below (by (with_reducible repeat (first | apply Kd.R_alloc | apply Kd.R_drewN | apply Kd.R_drew)); exact HO_254001.out) hb)
           have n3_ := Aside0.mk (Kd.V_below (by (with_reducible repeat (first | apply Kd.V_alloc | apply Kd.V_drewN | apply Kd.V_drew)); exact HO_262001.out) hb)
           have n4_ := Aside0.mk (Kd.R_below (by (with_reducible repeat (first | apply Kd.R_alloc | apply Kd.R_drewN | apply Kd.R_drew)); exact HO271.out) hb)
           have n5_ := Aside0.mk (Kd.V_below (by (with_reducible repeat (first | apply Kd.V_alloc | apply Kd.V_drewN | apply Kd.V_drew)); exact HO278.out) hb)
           have n6_ := Aside0.mk (Kd.V_below (by (with_reducible repeat (first | apply Kd.V_alloc | apply Kd.V_drewN | apply Kd.V_drew)); exact HO282.out) hb)
           have n7_ := Aside0.mk (Kd.V_below (by (with_reducible repeat (first | apply Kd.V_alloc | apply Kd.V_drewN | apply Kd.V_drew)); exact HO286.out) hb)
           have n8_ := Aside0.mk (Kd.R_below (by (with_reducible repeat (first | apply Kd.R_alloc | apply Kd.R_drewN | apply Kd.R_drew)); exact HO290.out) hb)
           have n9_ := Aside0.mk (Kd.V_below (by (with_reducible repeat (first | apply Kd.V_alloc | apply Kd.V_drewN | apply Kd.V_drew)); exact HO295.out) hb)
           have n10_ := Aside0.mk (Kd.R_below (by (with_reducible repeat (first | apply Kd.R_alloc | apply Kd.R_drewN | apply Kd.R_drew)); exact HO299.out) hb)
           have n11_ := Aside0.mk (Kd.V_lower (Kd.V_mono (ok' := fun k_ => some k_ ≠ (.slice Ao20 t245.length co20 : Value).ownBlock ∧ some k_ ≠ (.slice Ao26 t250.length co26 : Value).ownBlock ∧ some k_ ≠ (.slice Ao124 t288.length co124 : Value).ownBlock ∧ some k_ ≠ (.slice Ao129 t297.length co129 : Value).ownBlock ∧ k_ ≠ gb243 ∧ k_ ≠ gb248 ∧ k_ ≠ gb253 ∧ k_ ≠ gb261 ∧ k_ ≠ gb273) ho0 (fun k_ hk_ => ⟨Or.elim hk_ (fun hs_ => Or.elim hs_ (fun hs_ => ((Kd.R_types (Kd.R_types (Kd.R_types (Kd.R_types (Kd.R_types (Kd.R_apart' (Kd.R_apart' (HO_244001.out) (Kd.R_typed HO290.out) (by decide)) (Kd.R_typed HO299.out) (by decide)) BK243.out (by decide)) BK248.out (by decide)) BK253.out (by decide)) BK261.out (by decide)) BK273.out (by decide)).1 k_ hs_.symm).1.1.1.1.1.1.1.1) (fun hs_ => ((Kd.R_types (Kd.R_types (Kd.R_types (Kd.R_types (Kd.R_types (Kd.R_apart' (Kd.R_apart' (HO271.out) (Kd.R_typed HO290.out) (by decide)) (Kd.R_typed HO299.out) (by decide)) BK243.out (by decide)) BK248.out (by decide)) BK253.out (by decide)) BK261.out (by decide)) BK273.out (by decide)).1 k_ hs_.symm).1.1.1.1.1.1.1.2.1)) (fun hn_ => (Kd.fresh' (Kd.R_lt (by (with_reducible repeat (first | apply Kd.R_alloc | apply Kd.R_drewN | apply Kd.R_drew)); exact HO_249001.out)) k_ hn_)), Or.elim hk_ (fun hs_ => Or.elim hs_ (fun hs_ => ((Kd.R_types (Kd.R_types (Kd.R_types (Kd.R_types (Kd.R_types (Kd.R_apart' (Kd.R_apart' (HO_244001.out) (Kd.R_typed HO290.out) (by decide)) (Kd.R_typed HO299.out) (by decide)) BK243.out (by decide)) BK248.out (by decide)) BK253.out (by decide)) BK261.out (by decide)) BK273.out (by decide)).1 k_ hs_.symm).1.1.1.1.1.1.1.2.1) (fun hs_ => ((Kd.R_types (Kd.R_types (Kd.R_types (Kd.R_types (Kd.R_types (Kd.R_apart' (Kd.R_apart' (HO271.out) (Kd.R_typed HO290.out) (by decide)) (Kd.R_typed HO299.out) (by decide)) BK243.out (by decide)) BK248.out (by decide)) BK253.out (by decide)) BK261.out (by decide)) BK273.out (by decide)).1 k_ hs_.symm).1.1.1.1.1.1.1.2.2)) (fun hn_ => (Kd.fresh' (Kd.R_lt (by (with_reducible repeat (first | apply Kd.R_alloc | apply Kd.R_drewN | apply Kd.R_drew)); exact HO_254001.out)) k_ hn_)), Or.elim hk_ (fun hs_ => Or.elim hs_ (fun hs_ => ((Kd.R_types (Kd.R_types (Kd.R_types (Kd.R_types (Kd.R_types (Kd.R_apart' (Kd.R_apart' (HO_244001.out) (Kd.R_typed HO290.out) (by decide)) (Kd.R_typed HO299.out) (by decide)) BK243.out (by decide)) BK248.out (by decide)) BK253.out (by decide)) BK261.out (by decide)) BK273.out (by decide)).1 k_ hs_.symm).1.1.1.1.1.1.2) (fun hs_ => ((Kd.R_types (Kd.R_types (Kd.R_types (Kd.R_types (Kd.R_types (Kd.R_apart' (Kd.R_apart' (HO271.out) (Kd.R_typed HO290.out) (by decide)) (Kd.R_typed HO299.out) (by decide)) BK243.out (by decide)) BK248.out (by decide)) BK253.out (by decide)) BK261.out (by decide)) BK273.out (by decide)).1 k_ hs_.symm).1.1.1.1.1.1.2)) (fun hn_ => (Kd.fresh' (Kd.R_lt (by (with_reducible repeat (first | apply Kd.R_alloc | apply Kd.R_drewN | apply Kd.R_drew)); exact HO290.out)) k_ hn_)), Or.elim hk_ (fun hs_ => Or.elim hs_ (fun hs_ => ((Kd.R_types (Kd.R_types (Kd.R_types (Kd.R_types (Kd.R_types (Kd.R_apart' (Kd.R_apart' (HO_244001.out) (Kd.R_typed HO290.out) (by decide)) (Kd.R_typed HO299.out) (by decide)) BK243.out (by decide)) BK248.out (by decide)) BK253.out (by decide)) BK261.out (by decide)) BK273.out (by decide)).1 k_ hs_.symm).1.1.1.1.1.2) (fun hs_ => ((Kd.R_types (Kd.R_types (Kd.R_types (Kd.R_types (Kd.R_types (Kd.R_apart' (Kd.R_apart' (HO271.out) (Kd.R_typed HO290.out) (by decide)) (Kd.R_typed HO299.out) (by decide)) BK243.out (by decide)) BK248.out (by decide)) BK253.out (by decide)) BK261.out (by decide)) BK273.out (by decide)).1 k_ hs_.symm).1.1.1.1.1.2)) (fun hn_ => (Kd.fresh' (Kd.R_lt (by (with_reducible repeat (first | apply Kd.R_alloc | apply Kd.R_drewN | apply Kd.R_drew)); exact HO299.out)) k_ hn_)), Or.elim hk_ (fun hs_ => Or.elim hs_ (fun hs_ => ((Kd.R_types (Kd.R_types (Kd.R_types (Kd.R_types (Kd.R_types (Kd.R_apart' (Kd.R_apart' (HO_244001.out) (Kd.R_typed HO290.out) (by decide)) (Kd.R_typed HO299.out) (by decide)) BK243.out (by decide)) BK248.out (by decide)) BK253.out (by decide)) BK261.out (by decide)) BK273.out (by decide)).1 k_ hs_.symm).1.1.1.1.2) (fun hs_ => ((Kd.R_types (Kd.R_types (Kd.R_types (Kd.R_types (Kd.R_types (Kd.R_apart' (Kd.R_apart' (HO271.out) (Kd.R_typed HO290.out) (by decide)) (Kd.R_typed HO299.out) (by decide)) BK243.out (by decide)) BK248.out (by decide)) BK253.out (by decide)) BK261.out (by decide)) BK273.out (by decide)).1 k_ hs_.symm).1.1.1.1.2)) (fun hn_ => (Kd.freshB (g := gb243) (o := .cells #[.int .i64 t239, .slice Ao15 t240.length co15] 27 (0, 0)) (by (with_reducible repeat (first | refine blk_drewN ?_ _ | refine blk_drew ?_ | refine blk_alloc ?_ _)); exact BK243.out) k_ hn_)), Or.elim hk_ (fun hs_ => Or.elim hs_ (fun hs_ => ((Kd.R_types (Kd.R_types (Kd.R_types (Kd.R_types (Kd.R_types (Kd.R_apart' (Kd.R_apart' (HO_244001.out) (Kd.R_typed HO290.out) (by decide)) (Kd.R_typed HO299.out) (by decide)) BK243.out (by decide)) BK248.out (by decide)) BK253.out (by decide)) BK261.out (by decide)) BK273.out (by decide)).1 k_ hs_.symm).1.1.1.2) (fun hs_ => ((Kd.R_types (Kd.R_types (Kd.R_types (Kd.R_types (Kd.R_types (Kd.R_apart' (Kd.R_apart' (HO271.out) (Kd.R_typed HO290.out) (by decide)) (Kd.R_typed HO299.out) (by decide)) BK243.out (by decide)) BK248.out (by decide)) BK253.out (by decide)) BK261.out (by decide)) BK273.out (by decide)).1 k_ hs_.symm).1.1.1.2)) (fun hn_ => (Kd.freshB (g := gb248) (o := .cells #[.int .i64 t244, .slice Ao20 t245.length co20] 27 (0, 0)) (by (with_reducible repeat (first | refine blk_drewN ?_ _ | refine blk_drew ?_ | refine blk_alloc ?_ _)); exact BK248.out) k_ hn_)), Or.elim hk_ (fun hs_ => Or.elim hs_ (fun hs_ => ((Kd.R_types (Kd.R_types (Kd.R_types (Kd.R_types (Kd.R_types (Kd.R_apart' (Kd.R_apart' (HO_244001.out) (Kd.R_typed HO290.out) (by decide)) (Kd.R_typed HO299.out) (by decide)) BK243.out (by decide)) BK248.out (by decide)) BK253.out (by decide)) BK261.out (by decide)) BK273.out (by decide)).1 k_ hs_.symm).1.1.2) (fun hs_ => ((Kd.R_types (Kd.R_types (Kd.R_types (Kd.R_types (Kd.R_types (Kd.R_apart' (Kd.R_apart' (HO271.out) (Kd.R_typed HO290.out) (by decide)) (Kd.R_typed HO299.out) (by decide)) BK243.out (by decide)) BK248.out (by decide)) BK253.out (by decide)) BK261.out (by decide)) BK273.out (by decide)).1 k_ hs_.symm).1.1.2)) (fun hn_ => (Kd.freshB (g := gb253) (o := .cells #[.int .i64 t249, .slice Ao26 t250.length co26] 27 (0, 0)) (by (with_reducible repeat (first | refine blk_drewN ?_ _ | refine blk_drew ?_ | refine blk_alloc ?_ _)); exact BK253.out) k_ hn_)), Or.elim hk_ (fun hs_ => Or.elim hs_ (fun hs_ => ((Kd.R_types (Kd.R_types (Kd.R_types (Kd.R_types (Kd.R_types (Kd.R_apart' (Kd.R_apart' (HO_244001.out) (Kd.R_typed HO290.out) (by decide)) (Kd.R_typed HO299.out) (by decide)) BK243.out (by decide)) BK248.out (by decide)) BK253.out (by decide)) BK261.out (by decide)) BK273.out (by decide)).1 k_ hs_.symm).1.2) (fun hs_ => ((Kd.R_types (Kd.R_types (Kd.R_types (Kd.R_types (Kd.R_types (Kd.R_apart' (Kd.R_apart' (HO271.out) (Kd.R_typed HO290.out) (by decide)) (Kd.R_typed HO299.out) (by decide)) BK243.out (by decide)) BK248.out (by decide)) BK253.out (by decide)) BK261.out (by decide)) BK273.out (by decide)).1 k_ hs_.symm).1.2)) (fun hn_ => (Kd.freshB (g := gb261) (o := .cells #[.int .i64 t257, .slice Ao55 t258.length co55] 27 (0, 0)) (by (with_reducible repeat (first | refine blk_drewN ?_ _ | refine blk_drew ?_ | refine blk_alloc ?_ _)); exact BK261.out) k_ hn_)), Or.elim hk_ (fun hs_ => Or.elim hs_ (fun hs_ => ((Kd.R_types (Kd.R_types (Kd.R_types (Kd.R_types (Kd.R_types (Kd.R_apart' (Kd.R_apart' (HO_244001.out) (Kd.R_typed HO290.out) (by decide)) (Kd.R_typed HO299.out) (by decide)) BK243.out (by decide)) BK248.out (by decide)) BK253.out (by decide)) BK261.out (by decide)) BK273.out (by decide)).1 k_ hs_.symm).2) (fun hs_ => ((Kd.R_types (Kd.R_types (Kd.R_types (Kd.R_types (Kd.R_types (Kd.R_apart' (Kd.R_apart' (HO271.out) (Kd.R_typed HO290.out) (by decide)) (Kd.R_typed HO299.out) (by decide)) BK243.out (by decide)) BK248.out (by decide)) BK253.out (by decide)) BK261.out (by decide)) BK273.out (by decide)).1 k_ hs_.symm).2)) (fun hn_ => (Kd.freshB (g := gb273) (o := .cells #[.int .i64 t268, .slice Ao113 t269.length co113] 27 (0, 0)) (by (with_reducible repeat (first | refine blk_drewN ?_ _ | refine blk_drew ?_ | refine blk_alloc ?_ _)); exact BK273.out) k_ hn_))⟩)) (below_size (by repeat (first | (with_reducible first | exact HB.out | apply below_alloc | apply pw_below_drewN | apply below_drew1 | refine below_set ?_ GE243.out | refine below_set ?_ GE248.out | refine below_set ?_ GE253.out | refine below_set ?_ GE261.out | refine below_set ?_ GE273.out) | exact HB.out))))
           have n12_ := Aside0.mk (blk_below (g := gb243) (o := .cells #[.int .i64 t239, .slice Ao15 t240.length co15] 27 (0, 0)) (by (with_reducible repeat (first | refine blk_drewN ?_ _ | refine blk_drew ?_ | refine blk_alloc ?_ _)); exact BK243.out) hb)
           have n13_ := Aside0.mk (blk_below (g := gb248) (o := .cells #[.int .i64 t244, .slice Ao20 t245.length co20] 27 (0, 0)) (by (with_reducible repeat (first | refine blk_drewN ?_ _ | refine blk_drew ?_ | refine blk_alloc ?_ _)); exact BK248.out) hb)
           have n14_ := Aside0.mk (blk_below (g := gb253) (o := .cells #[.int .i64 t249, .slice Ao26 t250.length co26] 27 (0, 0)) (by (with_reducible repeat (first | refine blk_drewN ?_ _ | refine blk_drew ?_ | refine blk_alloc ?_ _)); exact BK253.out) hb)
           have n15_ := Aside0.mk (blk_below (g := gb261) (o := .cells #[.int .i64 t257, .slice Ao55 t258.length co55] 27 (0, 0)) (by (with_reducible repeat (first | refine blk_drewN ?_ _ | refine blk_drew ?_ | refine blk_alloc ?_ _)); exact BK261.out) hb)
           have n16_ := Aside0.mk (blk_below (g := gb273) (o := .cells #[.int .i64 t268, .slice Ao113 t269.length co113] 27 (0, 0)) (by (with_reducible repeat (first | refine blk_drewN ?_ _ | refine blk_drew ?_ | refine blk_alloc ?_ _)); exact BK273.out) hb)
           have n17_ := Aside0.mk (below_step (by repeat (first | (with_reducible first | exact HB.out | apply below_alloc | apply pw_below_drewN | apply below_drew1 | refine below_set ?_ GE243.out | refine below_set ?_ GE248.out | refine below_set ?_ GE253.out | refine below_set ?_ GE261.out | refine below_set ?_ GE273.out) | exact HB.out)) hb)
           clear HO_244001
           clear HO_249001
           clear HO_254001
           clear HO_262001
           clear HO271
           clear HO278
           clear HO282
           clear HO286
           clear HO290
           clear HO295
           clear HO299
           clear BK243
           clear BK248
           clear BK253
           clear BK261
           clear BK273
           clear HB
           have HO_244001 := n0_
           have HO_249001 := n1_
           have HO_254001 := n2_
           have HO_262001 := n3_
           have HO271 := n4_
           have HO278 := n5_
           have HO282 := n6_
           have HO286 := n7_
           have HO290 := n8_
           have HO295 := n9_
           have HO299 := n10_
           have HO304 := n11_
           have BK243 := n12_
           have BK248 := n13_
           have BK253 := n14_
           have BK261 := n15_
           have BK273 := n16_
           have HB := n17_
           clear n0_ n1_ n2_ n3_ n4_ n5_ n6_ n7_ n8_ n9_ n10_ n11_ n12_ n13_ n14_ n15_ n16_ n17_
           (try clear hb)
           (try clear hb2)
           (try clear hk)
           (try clear hi)
           (try clear ho0)
           refine hK.out _ _ ⟨(blk_cell BK261.out 0).trans rfl, (blk_cell BK261.out 1).trans rfl, (blk_cell BK253.out 0).trans rfl, (blk_cell BK253.out 1).trans rfl, (blk_cell BK243.out 0).trans rfl, (blk_cell BK243.out 1).trans rfl, (blk_cell BK248.out 0).trans rfl, (blk_cell BK248.out 1).trans rfl, (blk_cell BK273.out 0).trans rfl, (blk_cell BK273.out 1).trans rfl⟩ (fun hHeld => ?_)
           clear hK K
           refine norm_ (a' := ?_) ?_ ?_
           rotate_left
           ·show Act.put _ (some 118) _ = _
            simp only [Act.put, List.setIfInBounds_toArray, List.set_cons_zero, List.set_cons_succ, i64_w, i32_w]
            rfl
           refine one_ (i := 27) (N := some 120) #[true, true, true, true, true, true, true, true, true, true, true, true, true, true, true, true, true, true, true, true, true, true, true, true, true, true, true, true, false, false, false, false, false, false, false, false, false, false, false] rfl rfl (one_of HT_.out (by kernel_rfl)) (by decide) (fun K hK => ?_)
           refine goes_ Try.func19 (by kernel_rfl) rfl #[.agg #[.int .i64 t239, .slice Ao15 t240.length co15]] (by rfl) rfl rfl (by (try simp only [List.map_toArray, List.map_cons, List.map_nil]); first | done | rfl | (simp only [List.length_drop, List.length_take]; rfl)) ?_
           with_reducible refine (rootcellarlaw9_as.calls k2 t239 _ _ t240 t305 t306 _ ?side1 ?side2 A100.out).mono ?_
           (case side1 => repeat (first | exact (Kd.R_reads' HO_244001.out).2.2 | (with_reducible refine Kd.C_alloc ?_ _) | (with_reducible refine Kd.C_drewN ?_ _) | (with_reducible refine Kd.C_drew ?_)))
           (case side2 => exact (Kd.R_reads' HO_244001.out).2.1)
           rintro e w132 ⟨v307, rfl, ho0, hb⟩
           refine ⟨_, rfl, ?_⟩
           have n0_ := Aside0.mk (Kd.R_below (by (with_reducible repeat (first | apply Kd.R_alloc | apply Kd.R_drewN | apply Kd.R_drew)); exact HO_244001.out) hb)
           have n1_ := Aside0.mk (Kd.R_below (by (with_reducible repeat (first | apply Kd.R_alloc | apply Kd.R_drewN | apply Kd.R_drew)); exact HO_249001.out) hb)
           have n2_ := Aside0.mk (Kd.R_below (by (with_reducible repeat (first | apply Kd.R_alloc | apply Kd.R_drewN | apply Kd.R_drew)); exact HO_254001.out) hb)
           have n3_ := Aside0.mk (Kd.V_elder' (by (with_reducible repeat (first | apply Kd.V_alloc | apply Kd.V_drewN | apply Kd.V_drew)); exact HO_262001.out) (Kd.R_base ho0) hb)
           have n4_ := Aside0.mk (Kd.R_below (by (with_reducible repeat (first | apply Kd.R_alloc | apply Kd.R_drewN | apply Kd.R_drew)); exact HO271.out) hb)
           have n5_ := Aside0.mk (Kd.V_elder' (by (with_reducible repeat (first | apply Kd.V_alloc | apply Kd.V_drewN | apply Kd.V_drew)); exact HO278.out) (Kd.R_base ho0) hb)
           have n6_ := Aside0.mk (Kd.V_elder' (by (with_reducible repeat (first | apply Kd.V_alloc | apply Kd.V_drewN | apply Kd.V_drew)); exact HO282.out) (Kd.R_base ho0) hb)
           have n7_ := Aside0.mk (Kd.V_elder' (by (with_reducible repeat (first | apply Kd.V_alloc | apply Kd.V_drewN | apply Kd.V_drew)); exact HO286.out) (Kd.R_base ho0) hb)
           have n8_ := Aside0.mk (Kd.R_elder' (by (with_reducible repeat (first | apply Kd.R_alloc | apply Kd.R_drewN | apply Kd.R_drew)); exact HO290.out) (Kd.R_base ho0) hb)
           have n9_ := Aside0.mk (Kd.V_elder' (by (with_reducible repeat (first | apply Kd.V_alloc | apply Kd.V_drewN | apply Kd.V_drew)); exact HO295.out) (Kd.R_base ho0) hb)
           have n10_ := Aside0.mk (Kd.R_elder' (by (with_reducible repeat (first | apply Kd.R_alloc | apply Kd.R_drewN | apply Kd.R_drew)); exact HO299.out) (Kd.R_base ho0) hb)
           have n11_ := Aside0.mk (Kd.V_elder' (by (with_reducible repeat (first | apply Kd.V_alloc | apply Kd.V_drewN | apply Kd.V_drew)); exact HO304.out) (Kd.R_base ho0) hb)
           have n12_ := Aside0.mk (Kd.R_lower (Kd.R_new' (Kd.R_new' ho0 (Kd.R_lt (by (with_reducible repeat (first | apply Kd.R_alloc | apply Kd.R_drewN | apply Kd.R_drew)); exact HO290.out))) (Kd.R_lt (by (with_reducible repeat (first | apply Kd.R_alloc | apply Kd.R_drewN | apply Kd.R_drew)); exact HO299.out))) (below_size (by repeat (first | (with_reducible first | exact HB.out | apply below_alloc | apply pw_below_drewN | apply below_drew1 | refine below_set ?_ GE243.out | refine below_set ?_ GE248.out | refine below_set ?_ GE253.out | refine below_set ?_ GE261.out | refine below_set ?_ GE273.out) | exact HB.out))))
           have n13_ := Aside0.mk (blk_below (g := gb243) (o := .cells #[.int .i64 t239, .slice Ao15 t240.length co15] 27 (0, 0)) (by (with_reducible repeat (first | refine blk_drewN ?_ _ | refine blk_drew ?_ | refine blk_alloc ?_ _)); exact BK243.out) hb)
           have n14_ := Aside0.mk (blk_below (g := gb248) (o := .cells #[.int .i64 t244, .slice Ao20 t245.length co20] 27 (0, 0)) (by (with_reducible repeat (first | refine blk_drewN ?_ _ | refine blk_drew ?_ | refine blk_alloc ?_ _)); exact BK248.out) hb)
           have n15_ := Aside0.mk (blk_below (g := gb253) (o := .cells #[.int .i64 t249, .slice Ao26 t250.length co26] 27 (0, 0)) (by (with_reducible repeat (first | refine blk_drewN ?_ _ | refine blk_drew ?_ | refine blk_alloc ?_ _)); exact BK253.out) hb)
           have n16_ := Aside0.mk (blk_below (g := gb261) (o := .cells #[.int .i64 t257, .slice Ao55 t258.length co55] 27 (0, 0)) (by (with_reducible repeat (first | refine blk_drewN ?_ _ | refine blk_drew ?_ | refine blk_alloc ?_ _)); exact BK261.out) hb)
           have n17_ := Aside0.mk (blk_below (g := gb273) (o := .cells #[.int .i64 t268, .slice Ao113 t269.length co113] 27 (0, 0)) (by (with_reducible repeat (first | refine blk_drewN ?_ _ | refine blk_drew ?_ | refine blk_alloc ?_ _)); exact BK273.out) hb)
           have n18_ := Aside0.mk (below_step (by repeat (first | (with_reducible first | exact HB.out | apply below_alloc | apply pw_below_drewN | apply below_drew1 | refine below_set ?_ GE243.out | refine below_set ?_ GE248.out | refine below_set ?_ GE253.out | refine below_set ?_ GE261.out | refine below_set ?_ GE273.out) | exact HB.out)) hb)
           clear HO_244001
           clear HO_249001
           clear HO_254001
           clear HO_262001
           clear HO271
           clear HO278
           clear HO282
           clear HO286
           clear HO290
           clear HO295
           clear HO299
           clear HO304
           clear BK243
           clear BK248
           clear BK253
           clear BK261
           clear BK273
           clear HB
           have HO_244001 := n0_
           have HO_249001 := n1_
           have HO_254001 := n2_
           have HO_262001 := n3_
           have HO271 := n4_
           have HO278 := n5_
           have HO282 := n6_
           have HO286 := n7_
           have HO290 := n8_
           have HO295 := n9_
           have HO299 := n10_
           have HO304 := n11_
           have HO308 := n12_
           have BK243 := n13_
           have BK248 := n14_
           have BK253 := n15_
           have BK261 := n16_
           have BK273 := n17_
           have HB := n18_
           clear n0_ n1_ n2_ n3_ n4_ n5_ n6_ n7_ n8_ n9_ n10_ n11_ n12_ n13_ n14_ n15_ n16_ n17_ n18_
           (try clear hb)
           (try clear hb2)
           (try clear hk)
           (try clear hi)
           (try clear ho0)
           obtain ⟨Ao133, co133, eo133⟩ := Kd.V_slice HO304.out
           (first | subst eo133 | (injection eo133 with f1_ f2_ f3_; have f4_ := f1_.symm; have f5_ := f3_.symm; clear f1_ f2_ f3_; subst f4_; subst f5_))
           obtain ⟨Ao134, co134, eo134⟩ := Kd.R_slice HO308.out
           (first | subst eo134 | (injection eo134 with f1_ f2_ f3_; have f4_ := f1_.symm; have f5_ := f3_.symm; clear f1_ f2_ f3_; subst f4_; subst f5_))
           refine hK.out _ _ ⟨(blk_cell BK261.out 0).trans rfl, (blk_cell BK261.out 1).trans rfl, (blk_cell BK253.out 0).trans rfl, (blk_cell BK253.out 1).trans rfl, (blk_cell BK243.out 0).trans rfl, (blk_cell BK243.out 1).trans rfl, (blk_cell BK248.out 0).trans rfl, (blk_cell BK248.out 1).trans rfl, (blk_cell BK273.out 0).trans rfl, (blk_cell BK273.out 1).trans rfl⟩ (fun hHeld => ?_)
           clear hK K
           refine norm_ (a' := ?_) ?_ ?_
           rotate_left
           ·show Act.put _ (some 120) _ = _
            simp only [Act.put, List.setIfInBounds_toArray, List.set_cons_zero, List.set_cons_succ, i64_w, i32_w]
            rfl
           refine one_ (i := 28) (N := some 121) #[true, true, true, true, true, true, true, true, true, true, true, true, true, true, true, true, true, true, true, true, true, true, true, true, true, true, true, true, true, false, false, false, false, false, false, false, false, false, false] rfl rfl (one_of HT_.out (by kernel_rfl)) (by decide) (fun K hK => ?_)
           refine goes_ Try.func18 (by kernel_rfl) rfl #[.agg #[.int .i64 t301, .slice Ao133 t302.length co133], .agg #[.int .i64 t305, .slice Ao134 t306.length co134]] (by rfl) rfl rfl (by (try simp only [List.map_toArray, List.map_cons, List.map_nil]); first | done | rfl | (simp only [List.length_drop, List.length_take]; rfl)) ?_
           with_reducible refine (rootcellarlaw9_same.calls k2 t301 _ _ t302 t305 _ _ t306 true _ ?side1 ?side2 ?side3 ?side4 A101.out).mono ?_
           (case side1 => repeat (first | exact (Kd.V_reads' HO304.out).2.2 | (with_reducible refine Kd.C_alloc ?_ _) | (with_reducible refine Kd.C_drewN ?_ _) | (with_reducible refine Kd.C_drew ?_)))
           (case side2 => exact (Kd.V_reads' HO304.out).2.1)
           (case side3 => repeat (first | exact (Kd.R_reads' HO308.out).2.2 | (with_reducible refine Kd.C_alloc ?_ _) | (with_reducible refine Kd.C_drewN ?_ _) | (with_reducible refine Kd.C_drew ?_)))
           (case side4 => exact (Kd.R_reads' HO308.out).2.1)
           rintro e w135 ⟨rfl, hb⟩
           refine ⟨_, rfl, ?_⟩
           have n0_ := Aside0.mk (Kd.R_below (by (with_reducible repeat (first | apply Kd.R_alloc | apply Kd.R_drewN | apply Kd.R_drew)); exact HO_244001.out) hb)
           have n1_ := Aside0.mk (Kd.R_below (by (with_reducible repeat (first | apply Kd.R_alloc | apply Kd.R_drewN | apply Kd.R_drew)); exact HO_249001.out) hb)
           have n2_ := Aside0.mk (Kd.R_below (by (with_reducible repeat (first | apply Kd.R_alloc | apply Kd.R_drewN | apply Kd.R_drew)); exact HO_254001.out) hb)
           have n3_ := Aside0.mk (Kd.V_below (by (with_reducible repeat (first | apply Kd.V_alloc | apply Kd.V_drewN | apply Kd.V_drew)); exact HO_262001.out) hb)
           have n4_ := Aside0.mk (Kd.R_below (by (with_reducible repeat (first | apply Kd.R_alloc | apply Kd.R_drewN | apply Kd.R_drew)); exact HO271.out) hb)
           have n5_ := Aside0.mk (Kd.V_below (by (with_reducible repeat (first | apply Kd.V_alloc | apply Kd.V_drewN | apply Kd.V_drew)); exact HO278.out) hb)
           have n6_ := Aside0.mk (Kd.V_below (by (with_reducible repeat (first | apply Kd.V_alloc | apply Kd.V_drewN | apply Kd.V_drew)); exact HO282.out) hb)
           have n7_ := Aside0.mk (Kd.V_below (by (with_reducible repeat (first | apply Kd.V_alloc | apply Kd.V_drewN | apply Kd.V_drew)); exact HO286.out) hb)
           have n8_ := Aside0.mk (Kd.R_below (by (with_reducible repeat (first | apply Kd.R_alloc | apply Kd.R_drewN | apply Kd.R_drew)); exact HO290.out) hb)
           have n9_ := Aside0.mk (Kd.V_below (by (with_reducible repeat (first | apply Kd.V_alloc | apply Kd.V_drewN | apply Kd.V_drew)); exact HO295.out) hb)
           have n10_ := Aside0.mk (Kd.R_below (by (with_reducible repeat (first | apply Kd.R_alloc | apply Kd.R_drewN | apply Kd.R_drew)); exact HO299.out) hb)
           have n11_ := Aside0.mk (Kd.V_below (by (with_reducible repeat (first | apply Kd.V_alloc | apply Kd.V_drewN | apply Kd.V_drew)); exact HO304.out) hb)
           have n12_ := Aside0.mk (Kd.R_below (by (with_reducible repeat (first | apply Kd.R_alloc | apply Kd.R_drewN | apply Kd.R_drew)); exact HO308.out) hb)
           have n13_ := Aside0.mk (blk_below (g := gb243) (o := .cells #[.int .i64 t239, .slice Ao15 t240.length co15] 27 (0, 0)) (by (with_reducible repeat (first | refine blk_drewN ?_ _ | refine blk_drew ?_ | refine blk_alloc ?_ _)); exact BK243.out) hb)
           have n14_ := Aside0.mk (blk_below (g := gb248) (o := .cells #[.int .i64 t244, .slice Ao20 t245.length co20] 27 (0, 0)) (by (with_reducible repeat (first | refine blk_drewN ?_ _ | refine blk_drew ?_ | refine blk_alloc ?_ _)); exact BK248.out) hb)
           have n15_ := Aside0.mk (blk_below (g := gb253) (o := .cells #[.int .i64 t249, .slice Ao26 t250.length co26] 27 (0, 0)) (by (with_reducible repeat (first | refine blk_drewN ?_ _ | refine blk_drew ?_ | refine blk_alloc ?_ _)); exact BK253.out) hb)
           have n16_ := Aside0.mk (blk_below (g := gb261) (o := .cells #[.int .i64 t257, .slice Ao55 t258.length co55] 27 (0, 0)) (by (with_reducible repeat (first | refine blk_drewN ?_ _ | refine blk_drew ?_ | refine blk_alloc ?_ _)); exact BK261.out) hb)
           have n17_ := Aside0.mk (blk_below (g := gb273) (o := .cells #[.int .i64 t268, .slice Ao113 t269.length co113] 27 (0, 0)) (by (with_reducible repeat (first | refine blk_drewN ?_ _ | refine blk_drew ?_ | refine blk_alloc ?_ _)); exact BK273.out) hb)
           have n18_ := Aside0.mk (below_step (by repeat (first | (with_reducible first | exact HB.out | apply below_alloc | apply pw_below_drewN | apply below_drew1 | refine below_set ?_ GE243.out | refine below_set ?_ GE248.out | refine below_set ?_ GE253.out | refine below_set ?_ GE261.out | refine below_set ?_ GE273.out) | exact HB.out)) hb)
           clear HO_244001
           clear HO_249001
           clear HO_254001
           clear HO_262001
           clear HO271
           clear HO278
           clear HO282
           clear HO286
           clear HO290
           clear HO295
           clear HO299
           clear HO304
           clear HO308
           clear BK243
           clear BK248
           clear BK253
           clear BK261
           clear BK273
           clear HB
           have HO_244001 := n0_
           have HO_249001 := n1_
           have HO_254001 := n2_
           have HO_262001 := n3_
           have HO271 := n4_
           have HO278 := n5_
           have HO282 := n6_
           have HO286 := n7_
           have HO290 := n8_
           have HO295 := n9_
           have HO299 := n10_
           have HO304 := n11_
           have HO308 := n12_
           have BK243 := n13_
           have BK248 := n14_
           have BK253 := n15_
           have BK261 := n16_
           have BK273 := n17_
           have HB := n18_
           clear n0_ n1_ n2_ n3_ n4_ n5_ n6_ n7_ n8_ n9_ n10_ n11_ n12_ n13_ n14_ n15_ n16_ n17_ n18_
           (try clear hb)
           (try clear hb2)
           (try clear hk)
           (try clear hi)
           refine hK.out _ _ ⟨(blk_cell BK261.out 0).trans rfl, (blk_cell BK261.out 1).trans rfl, (blk_cell BK253.out 0).trans rfl, (blk_cell BK253.out 1).trans rfl, (blk_cell BK243.out 0).trans rfl, (blk_cell BK243.out 1).trans rfl, (blk_cell BK248.out 0).trans rfl, (blk_cell BK248.out 1).trans rfl, (blk_cell BK273.out 0).trans rfl, (blk_cell BK273.out 1).trans rfl⟩ (fun hHeld => ?_)
           clear hK K
           refine norm_ (a' := ?_) ?_ ?_
           rotate_left
           ·show Act.put _ (some 121) _ = _
            simp only [Act.put, List.setIfInBounds_toArray, List.set_cons_zero, List.set_cons_succ, i64_w, i32_w]
            rfl
           refine pure_ (i := 29) (N := some 122) (v := ?_) (a' := ?_) #[true, true, true, true, true, true, true, true, true, true, true, true, true, true, true, true, true, true, true, true, true, true, true, true, true, true, true, true, true, true, false, false, false, false, false, false, false, false, false] rfl rfl (any_of HT_.out (by kernel_rfl)) (fun _ _ _ h => h) (Or.inl ⟨by rfl, ?_⟩) ?_ ?_
           rotate_left
           ·intro w'
            go_simp
            with_reducible rfl
           rotate_left
           ·simp only [Act.put, List.setIfInBounds_toArray, List.set_cons_zero, List.set_cons_succ, i64_w, i32_w]
            rfl
           refine pure_ (i := 30) (N := some 123) (v := ?_) (a' := ?_) #[true, true, true, true, true, true, true, true, true, true, true, true, true, true, true, true, true, true, true, true, true, true, true, true, true, true, true, true, true, true, true, false, false, false, false, false, false, false, false] rfl rfl (any_of HT_.out (by kernel_rfl)) (fun _ _ _ h => h) (Or.inl ⟨by rfl, ?_⟩) ?_ ?_
           rotate_left
           ·intro w'
            go_simp
            with_reducible rfl
           rotate_left
           ·simp only [Act.put, List.setIfInBounds_toArray, List.set_cons_zero, List.set_cons_succ, i64_w, i32_w]
            rfl
           refine take_ (i := 31) (N := some 124) (v := ?_) (a' := ?_) #[true, true, true, true, true, true, true, true, true, true, true, true, true, true, true, true, true, true, true, true, true, true, true, true, true, true, true, true, true, true, true, true, false, false, false, false, false, false, false] rfl rfl (take_ofW HT_.out HW_.out (by kernel_rfl)) (fun _ _ _ h => h) (Or.inl ⟨by rfl, ?_⟩) hHeld ?_ ?_
           rotate_left
           ·rintro w' ⟨s0, s1, s2, s3, s4, s5, s6, s7, s8, s9⟩
            go_simp
            with_reducible rfl
           rotate_left
           ·simp only [Act.put, List.setIfInBounds_toArray, List.set_cons_zero, List.set_cons_succ, i64_w, i32_w]
            rfl
           refine take_ (i := 32) (N := some 125) (v := ?_) (a' := ?_) #[true, true, true, true, true, true, true, true, true, true, true, true, true, true, true, true, true, true, true, true, true, true, true, true, true, true, true, true, true, true, true, true, true, false, false, false, false, false, false] rfl rfl (take_ofW HT_.out HW_.out (by kernel_rfl)) (fun _ _ _ h => h) (Or.inl ⟨by rfl, ?_⟩) hHeld ?_ ?_
           rotate_left
           ·rintro w' ⟨s0, s1, s2, s3, s4, s5, s6, s7, s8, s9⟩
            go_simp
            with_reducible rfl
           rotate_left
           ·simp only [Act.put, List.setIfInBounds_toArray, List.set_cons_zero, List.set_cons_succ, i64_w, i32_w]
            rfl
           refine take_ (i := 34) (N := some 127) (v := ?_) (a' := ?_) #[true, true, true, true, true, true, true, true, true, true, true, true, true, true, true, true, true, true, true, true, true, true, true, true, true, true, true, true, true, true, true, true, true, false, true, false, false, false, false] rfl rfl (take_ofW HT_.out HW_.out (by kernel_rfl)) (fun _ _ _ h => h) (Or.inl ⟨by rfl, ?_⟩) hHeld ?_ ?_
           rotate_left
           ·rintro w' ⟨s0, s1, s2, s3, s4, s5, s6, s7, s8, s9⟩
            go_simp
            with_reducible rfl
           rotate_left
           ·simp only [Act.put, List.setIfInBounds_toArray, List.set_cons_zero, List.set_cons_succ, i64_w, i32_w]
            rfl
           refine one_ (i := 33) (N := some 126) #[true, true, true, true, true, true, true, true, true, true, true, true, true, true, true, true, true, true, true, true, true, true, true, true, true, true, true, true, true, true, true, true, true, true, true, false, false, false, false] rfl rfl (one_of HT_.out (by kernel_rfl)) (by decide) (fun K hK => ?_)
           refine goes_ Try.func17 (by kernel_rfl) rfl #[.agg #[.int .i64 t268, .slice Ao113 t269.length co113], .agg #[.int .i64 t239, .slice Ao15 t240.length co15]] (by rfl) rfl rfl (by (try simp only [List.map_toArray, List.map_cons, List.map_nil]); first | done | rfl | (simp only [List.length_drop, List.length_take]; rfl)) ?_
           with_reducible refine (cell_Over.calls k2 t268 (fun k_ => some k_ = (.slice Ao113 t269.length co113 : Value).ownBlock) _ _ t269 t239 (fun k_ => some k_ = (.slice Ao15 t240.length co15 : Value).ownBlock) _ _ t240 t310 t311 _ ?side1 ?side2 A103.out).mono ?_
           (case side1 => exact Kd.R_V (Kd.R_tight rfl (Kd.R_types (Kd.R_types (Kd.R_types (Kd.R_types (Kd.R_types (Kd.R_apart' (Kd.R_apart' (Kd.R_apart' (HO271.out) (Kd.R_typed HO290.out) (by decide)) (Kd.R_typed HO299.out) (by decide)) (Kd.R_typed HO308.out) (by decide)) BK243.out (by decide)) BK248.out (by decide)) BK253.out (by decide)) BK261.out (by decide)) BK273.out (by decide))))
           (case side2 => exact Kd.R_V (Kd.R_tight rfl (Kd.R_types (Kd.R_types (Kd.R_types (Kd.R_types (Kd.R_types (Kd.R_apart' (Kd.R_apart' (Kd.R_apart' (HO_244001.out) (Kd.R_typed HO290.out) (by decide)) (Kd.R_typed HO299.out) (by decide)) (Kd.R_typed HO308.out) (by decide)) BK243.out (by decide)) BK248.out (by decide)) BK253.out (by decide)) BK261.out (by decide)) BK273.out (by decide))))
           rintro e w136 ⟨v312, rfl, ho0, hb⟩
           refine ⟨_, rfl, ?_⟩
           have n0_ := Aside0.mk (Kd.R_below (by (with_reducible repeat (first | apply Kd.R_alloc | apply Kd.R_drewN | apply Kd.R_drew)); exact HO_244001.out) hb)
           have n1_ := Aside0.mk (Kd.R_below (by (with_reducible repeat (first | apply Kd.R_alloc | apply Kd.R_drewN | apply Kd.R_drew)); exact HO_249001.out) hb)
           have n2_ := Aside0.mk (Kd.R_below (by (with_reducible repeat (first | apply Kd.R_alloc | apply Kd.R_drewN | apply Kd.R_drew)); exact HO_254001.out) hb)
           have n3_ := Aside0.mk (Kd.V_below (by (with_reducible repeat (first | apply Kd.V_alloc | apply Kd.V_drewN | apply Kd.V_drew)); exact HO_262001.out) hb)
           have n4_ := Aside0.mk (Kd.R_below (by (with_reducible repeat (first | apply Kd.R_alloc | apply Kd.R_drewN | apply Kd.R_drew)); exact HO271.out) hb)
           have n5_ := Aside0.mk (Kd.V_below (by (with_reducible repeat (first | apply Kd.V_alloc | apply Kd.V_drewN | apply Kd.V_drew)); exact HO278.out) hb)
           have n6_ := Aside0.mk (Kd.V_below (by (with_reducible repeat (first | apply Kd.V_alloc | apply Kd.V_drewN | apply Kd.V_drew)); exact HO282.out) hb)
           have n7_ := Aside0.mk (Kd.V_below (by (with_reducible repeat (first | apply Kd.V_alloc | apply Kd.V_drewN | apply Kd.V_drew)); exact HO286.out) hb)
           have n8_ := Aside0.mk (Kd.R_below (by (with_reducible repeat (first | apply Kd.R_alloc | apply Kd.R_drewN | apply Kd.R_drew)); exact HO290.out) hb)
           have n9_ := Aside0.mk (Kd.V_below (by (with_reducible repeat (first | apply Kd.V_alloc | apply Kd.V_drewN | apply Kd.V_drew)); exact HO295.out) hb)
           have n10_ := Aside0.mk (Kd.R_below (by (with_reducible repeat (first | apply Kd.R_alloc | apply Kd.R_drewN | apply Kd.R_drew)); exact HO299.out) hb)
           have n11_ := Aside0.mk (Kd.V_below (by (with_reducible repeat (first | apply Kd.V_alloc | apply Kd.V_drewN | apply Kd.V_drew)); exact HO304.out) hb)
           have n12_ := Aside0.mk (Kd.R_below (by (with_reducible repeat (first | apply Kd.R_alloc | apply Kd.R_drewN | apply Kd.R_drew)); exact HO308.out) hb)
           have n13_ := Aside0.mk (Kd.V_lower (Kd.V_mono (ok' := fun k_ => some k_ ≠ (.slice Ao20 t245.length co20 : Value).ownBlock ∧ some k_ ≠ (.slice Ao26 t250.length co26 : Value).ownBlock ∧ some k_ ≠ (.slice Ao124 t288.length co124 : Value).ownBlock ∧ some k_ ≠ (.slice Ao129 t297.length co129 : Value).ownBlock ∧ some k_ ≠ (.slice Ao134 t306.length co134 : Value).ownBlock ∧ k_ ≠ gb243 ∧ k_ ≠ gb248 ∧ k_ ≠ gb253 ∧ k_ ≠ gb261 ∧ k_ ≠ gb273) ho0 (fun k_ hk_ => ⟨Or.elim hk_ (fun hs_ => Or.elim hs_ (fun hs_ => ((Kd.R_types (Kd.R_types (Kd.R_types (Kd.R_types (Kd.R_types (Kd.R_apart' (Kd.R_apart' (Kd.R_apart' (HO271.out) (Kd.R_typed HO290.out) (by decide)) (Kd.R_typed HO299.out) (by decide)) (Kd.R_typed HO308.out) (by decide)) BK243.out (by decide)) BK248.out (by decide)) BK253.out (by decide)) BK261.out (by decide)) BK273.out (by decide)).1 k_ hs_.symm).1.1.1.1.1.1.1.1.2.1) (fun hs_ => ((Kd.R_types (Kd.R_types (Kd.R_types (Kd.R_types (Kd.R_types (Kd.R_apart' (Kd.R_apart' (Kd.R_apart' (HO_244001.out) (Kd.R_typed HO290.out) (by decide)) (Kd.R_typed HO299.out) (by decide)) (Kd.R_typed HO308.out) (by decide)) BK243.out (by decide)) BK248.out (by decide)) BK253.out (by decide)) BK261.out (by decide)) BK273.out (by decide)).1 k_ hs_.symm).1.1.1.1.1.1.1.1.1)) (fun hn_ => (Kd.fresh' (Kd.R_lt (by (with_reducible repeat (first | apply Kd.R_alloc | apply Kd.R_drewN | apply Kd.R_drew)); exact HO_249001.out)) k_ hn_)), Or.elim hk_ (fun hs_ => Or.elim hs_ (fun hs_ => ((Kd.R_types (Kd.R_types (Kd.R_types (Kd.R_types (Kd.R_types (Kd.R_apart' (Kd.R_apart' (Kd.R_apart' (HO271.out) (Kd.R_typed HO290.out) (by decide)) (Kd.R_typed HO299.out) (by decide)) (Kd.R_typed HO308.out) (by decide)) BK243.out (by decide)) BK248.out (by decide)) BK253.out (by decide)) BK261.out (by decide)) BK273.out (by decide)).1 k_ hs_.symm).1.1.1.1.1.1.1.1.2.2) (fun hs_ => ((Kd.R_types (Kd.R_types (Kd.R_types (Kd.R_types (Kd.R_types (Kd.R_apart' (Kd.R_apart' (Kd.R_apart' (HO_244001.out) (Kd.R_typed HO290.out) (by decide)) (Kd.R_typed HO299.out) (by decide)) (Kd.R_typed HO308.out) (by decide)) BK243.out (by decide)) BK248.out (by decide)) BK253.out (by decide)) BK261.out (by decide)) BK273.out (by decide)).1 k_ hs_.symm).1.1.1.1.1.1.1.1.2.1)) (fun hn_ => (Kd.fresh' (Kd.R_lt (by (with_reducible repeat (first | apply Kd.R_alloc | apply Kd.R_drewN | apply Kd.R_drew)); exact HO_254001.out)) k_ hn_)), Or.elim hk_ (fun hs_ => Or.elim hs_ (fun hs_ => ((Kd.R_types (Kd.R_types (Kd.R_types (Kd.R_types (Kd.R_types (Kd.R_apart' (Kd.R_apart' (Kd.R_apart' (HO271.out) (Kd.R_typed HO290.out) (by decide)) (Kd.R_typed HO299.out) (by decide)) (Kd.R_typed HO308.out) (by decide)) BK243.out (by decide)) BK248.out (by decide)) BK253.out (by decide)) BK261.out (by decide)) BK273.out (by decide)).1 k_ hs_.symm).1.1.1.1.1.1.1.2) (fun hs_ => ((Kd.R_types (Kd.R_types (Kd.R_types (Kd.R_types (Kd.R_types (Kd.R_apart' (Kd.R_apart' (Kd.R_apart' (HO_244001.out) (Kd.R_typed HO290.out) (by decide)) (Kd.R_typed HO299.out) (by decide)) (Kd.R_typed HO308.out) (by decide)) BK243.out (by decide)) BK248.out (by decide)) BK253.out (by decide)) BK261.out (by decide)) BK273.out (by decide)).1 k_ hs_.symm).1.1.1.1.1.1.1.2)) (fun hn_ => (Kd.fresh' (Kd.R_lt (by (with_reducible repeat (first | apply Kd.R_alloc | apply Kd.R_drewN | apply Kd.R_drew)); exact HO290.out)) k_ hn_)), Or.elim hk_ (fun hs_ => Or.elim hs_ (fun hs_ => ((Kd.R_types (Kd.R_types (Kd.R_types (Kd.R_types (Kd.R_types (Kd.R_apart' (Kd.R_apart' (Kd.R_apart' (HO271.out) (Kd.R_typed HO290.out) (by decide)) (Kd.R_typed HO299.out) (by decide)) (Kd.R_typed HO308.out) (by decide)) BK243.out (by decide)) BK248.out (by decide)) BK253.out (by decide)) BK261.out (by decide)) BK273.out (by decide)).1 k_ hs_.symm).1.1.1.1.1.1.2) (fun hs_ => ((Kd.R_types (Kd.R_types (Kd.R_types (Kd.R_types (Kd.R_types (Kd.R_apart' (Kd.R_apart' (Kd.R_apart' (HO_244001.out) (Kd.R_typed HO290.out) (by decide)) (Kd.R_typed HO299.out) (by decide)) (Kd.R_typed HO308.out) (by decide)) BK243.out (by decide)) BK248.out (by decide)) BK253.out (by decide)) BK261.out (by decide)) BK273.out (by decide)).1 k_ hs_.symm).1.1.1.1.1.1.2)) (fun hn_ => (Kd.fresh' (Kd.R_lt (by (with_reducible repeat (first | apply Kd.R_alloc | apply Kd.R_drewN | apply Kd.R_drew)); exact HO299.out)) k_ hn_)), Or.elim hk_ (fun hs_ => Or.elim hs_ (fun hs_ => ((Kd.R_types (Kd.R_types (Kd.R_types (Kd.R_types (Kd.R_types (Kd.R_apart' (Kd.R_apart' (Kd.R_apart' (HO271.out) (Kd.R_typed HO290.out) (by decide)) (Kd.R_typed HO299.out) (by decide)) (Kd.R_typed HO308.out) (by decide)) BK243.out (by decide)) BK248.out (by decide)) BK253.out (by decide)) BK261.out (by decide)) BK273.out (by decide)).1 k_ hs_.symm).1.1.1.1.1.2) (fun hs_ => ((Kd.R_types (Kd.R_types (Kd.R_types (Kd.R_types (Kd.R_types (Kd.R_apart' (Kd.R_apart' (Kd.R_apart' (HO_244001.out) (Kd.R_typed HO290.out) (by decide)) (Kd.R_typed HO299.out) (by decide)) (Kd.R_typed HO308.out) (by decide)) BK243.out (by decide)) BK248.out (by decide)) BK253.out (by decide)) BK261.out (by decide)) BK273.out (by decide)).1 k_ hs_.symm).1.1.1.1.1.2)) (fun hn_ => (Kd.fresh' (Kd.R_lt (by (with_reducible repeat (first | apply Kd.R_alloc | apply Kd.R_drewN | apply Kd.R_drew)); exact HO308.out)) k_ hn_)), Or.elim hk_ (fun hs_ => Or.elim hs_ (fun hs_ => ((Kd.R_types (Kd.R_types (Kd.R_types (Kd.R_types (Kd.R_types (Kd.R_apart' (Kd.R_apart' (Kd.R_apart' (HO271.out) (Kd.R_typed HO290.out) (by decide)) (Kd.R_typed HO299.out) (by decide)) (Kd.R_typed HO308.out) (by decide)) BK243.out (by decide)) BK248.out (by decide)) BK253.out (by decide)) BK261.out (by decide)) BK273.out (by decide)).1 k_ hs_.symm).1.1.1.1.2) (fun hs_ => ((Kd.R_types (Kd.R_types (Kd.R_types (Kd.R_types (Kd.R_types (Kd.R_apart' (Kd.R_apart' (Kd.R_apart' (HO_244001.out) (Kd.R_typed HO290.out) (by decide)) (Kd.R_typed HO299.out) (by decide)) (Kd.R_typed HO308.out) (by decide)) BK243.out (by decide)) BK248.out (by decide)) BK253.out (by decide)) BK261.out (by decide)) BK273.out (by decide)).1 k_ hs_.symm).1.1.1.1.2)) (fun hn_ => (Kd.freshB (g := gb243) (o := .cells #[.int .i64 t239, .slice Ao15 t240.length co15] 27 (0, 0)) (by (with_reducible repeat (first | refine blk_drewN ?_ _ | refine blk_drew ?_ | refine blk_alloc ?_ _)); exact BK243.out) k_ hn_)), Or.elim hk_ (fun hs_ => Or.elim hs_ (fun hs_ => ((Kd.R_types (Kd.R_types (Kd.R_types (Kd.R_types (Kd.R_types (Kd.R_apart' (Kd.R_apart' (Kd.R_apart' (HO271.out) (Kd.R_typed HO290.out) (by decide)) (Kd.R_typed HO299.out) (by decide)) (Kd.R_typed HO308.out) (by decide)) BK243.out (by decide)) BK248.out (by decide)) BK253.out (by decide)) BK261.out (by decide)) BK273.out (by decide)).1 k_ hs_.symm).1.1.1.2) (fun hs_ => ((Kd.R_types (Kd.R_types (Kd.R_types (Kd.R_types (Kd.R_types (Kd.R_apart' (Kd.R_apart' (Kd.R_apart' (HO_244001.out) (Kd.R_typed HO290.out) (by decide)) (Kd.R_typed HO299.out) (by decide)) (Kd.R_typed HO308.out) (by decide)) BK243.out (by decide)) BK248.out (by decide)) BK253.out (by decide)) BK261.out (by decide)) BK273.out (by decide)).1 k_ hs_.symm).1.1.1.2)) (fun hn_ => (Kd.freshB (g := gb248) (o := .cells #[.int .i64 t244, .slice Ao20 t245.length co20] 27 (0, 0)) (by (with_reducible repeat (first | refine blk_drewN ?_ _ | refine blk_drew ?_ | refine blk_alloc ?_ _)); exact BK248.out) k_ hn_)), Or.elim hk_ (fun hs_ => Or.elim hs_ (fun hs_ => ((Kd.R_types (Kd.R_types (Kd.R_types (Kd.R_types (Kd.R_types (Kd.R_apart' (Kd.R_apart' (Kd.R_apart' (HO271.out) (Kd.R_typed HO290.out) (by decide)) (Kd.R_typed HO299.out) (by decide)) (Kd.R_typed HO308.out) (by decide)) BK243.out (by decide)) BK248.out (by decide)) BK253.out (by decide)) BK261.out (by decide)) BK273.out (by decide)).1 k_ hs_.symm).1.1.2) (fun hs_ => ((Kd.R_types (Kd.R_types (Kd.R_types (Kd.R_types (Kd.R_types (Kd.R_apart' (Kd.R_apart' (Kd.R_apart' (HO_244001.out) (Kd.R_typed HO290.out) (by decide)) (Kd.R_typed HO299.out) (by decide)) (Kd.R_typed HO308.out) (by decide)) BK243.out (by decide)) BK248.out (by decide)) BK253.out (by decide)) BK261.out (by decide)) BK273.out (by decide)).1 k_ hs_.symm).1.1.2)) (fun hn_ => (Kd.freshB (g := gb253) (o := .cells #[.int .i64 t249, .slice Ao26 t250.length co26] 27 (0, 0)) (by (with_reducible repeat (first | refine blk_drewN ?_ _ | refine blk_drew ?_ | refine blk_alloc ?_ _)); exact BK253.out) k_ hn_)), Or.elim hk_ (fun hs_ => Or.elim hs_ (fun hs_ => ((Kd.R_types (Kd.R_types (Kd.R_types (Kd.R_types (Kd.R_types (Kd.R_apart' (Kd.R_apart' (Kd.R_apart' (HO271.out) (Kd.R_typed HO290.out) (by decide)) (Kd.R_typed HO299.out) (by decide)) (Kd.R_typed HO308.out) (by decide)) BK243.out (by decide)) BK248.out (by decide)) BK253.out (by decide)) BK261.out (by decide)) BK273.out (by decide)).1 k_ hs_.symm).1.2) (fun hs_ => ((Kd.R_types (Kd.R_types (Kd.R_types (Kd.R_types (Kd.R_types (Kd.R_apart' (Kd.R_apart' (Kd.R_apart' (HO_244001.out) (Kd.R_typed HO290.out) (by decide)) (Kd.R_typed HO299.out) (by decide)) (Kd.R_typed HO308.out) (by decide)) BK243.out (by decide)) BK248.out (by decide)) BK253.out (by decide)) BK261.out (by decide)) BK273.out (by decide)).1 k_ hs_.symm).1.2)) (fun hn_ => (Kd.freshB (g := gb261) (o := .cells #[.int .i64 t257, .slice Ao55 t258.length co55] 27 (0, 0)) (by (with_reducible repeat (first | refine blk_drewN ?_ _ | refine blk_drew ?_ | refine blk_alloc ?_ _)); exact BK261.out) k_ hn_)), Or.elim hk_ (fun hs_ => Or.elim hs_ (fun hs_ => ((Kd.R_types (Kd.R_types (Kd.R_types (Kd.R_types (Kd.R_types (Kd.R_apart' (Kd.R_apart' (Kd.R_apart' (HO271.out) (Kd.R_typed HO290.out) (by decide)) (Kd.R_typed HO299.out) (by decide)) (Kd.R_typed HO308.out) (by decide)) BK243.out (by decide)) BK248.out (by decide)) BK253.out (by decide)) BK261.out (by decide)) BK273.out (by decide)).1 k_ hs_.symm).2) (fun hs_ => ((Kd.R_types (Kd.R_types (Kd.R_types (Kd.R_types (Kd.R_types (Kd.R_apart' (Kd.R_apart' (Kd.R_apart' (HO_244001.out) (Kd.R_typed HO290.out) (by decide)) (Kd.R_typed HO299.out) (by decide)) (Kd.R_typed HO308.out) (by decide)) BK243.out (by decide)) BK248.out (by decide)) BK253.out (by decide)) BK261.out (by decide)) BK273.out (by decide)).1 k_ hs_.symm).2)) (fun hn_ => (Kd.freshB (g := gb273) (o := .cells #[.int .i64 t268, .slice Ao113 t269.length co113] 27 (0, 0)) (by (with_reducible repeat (first | refine blk_drewN ?_ _ | refine blk_drew ?_ | refine blk_alloc ?_ _)); exact BK273.out) k_ hn_))⟩)) (below_size (by repeat (first | (with_reducible first | exact HB.out | apply below_alloc | apply pw_below_drewN | apply below_drew1 | refine below_set ?_ GE243.out | refine below_set ?_ GE248.out | refine below_set ?_ GE253.out | refine below_set ?_ GE261.out | refine below_set ?_ GE273.out) | exact HB.out))))
           have n14_ := Aside0.mk (blk_below (g := gb243) (o := .cells #[.int .i64 t239, .slice Ao15 t240.length co15] 27 (0, 0)) (by (with_reducible repeat (first | refine blk_drewN ?_ _ | refine blk_drew ?_ | refine blk_alloc ?_ _)); exact BK243.out) hb)
           have n15_ := Aside0.mk (blk_below (g := gb248) (o := .cells #[.int .i64 t244, .slice Ao20 t245.length co20] 27 (0, 0)) (by (with_reducible repeat (first | refine blk_drewN ?_ _ | refine blk_drew ?_ | refine blk_alloc ?_ _)); exact BK248.out) hb)
           have n16_ := Aside0.mk (blk_below (g := gb253) (o := .cells #[.int .i64 t249, .slice Ao26 t250.length co26] 27 (0, 0)) (by (with_reducible repeat (first | refine blk_drewN ?_ _ | refine blk_drew ?_ | refine blk_alloc ?_ _)); exact BK253.out) hb)
           have n17_ := Aside0.mk (blk_below (g := gb261) (o := .cells #[.int .i64 t257, .slice Ao55 t258.length co55] 27 (0, 0)) (by (with_reducible repeat (first | refine blk_drewN ?_ _ | refine blk_drew ?_ | refine blk_alloc ?_ _)); exact BK261.out) hb)
           have n18_ := Aside0.mk (blk_below (g := gb273) (o := .cells #[.int .i64 t268, .slice Ao113 t269.length co113] 27 (0, 0)) (by (with_reducible repeat (first | refine blk_drewN ?_ _ | refine blk_drew ?_ | refine blk_alloc ?_ _)); exact BK273.out) hb)
           have n19_ := Aside0.mk (below_step (by repeat (first | (with_reducible first | exact HB.out | apply below_alloc | apply pw_below_drewN | apply below_drew1 | refine below_set ?_ GE243.out | refine below_set ?_ GE248.out | refine below_set ?_ GE253.out | refine below_set ?_ GE261.out | refine below_set ?_ GE273.out) | exact HB.out)) hb)
           clear HO_244001
           clear HO_249001
           clear HO_254001
           clear HO_262001
           clear HO271
           clear HO278
           clear HO282
           clear HO286
           clear HO290
           clear HO295
           clear HO299
           clear HO304
           clear HO308
           clear BK243
           clear BK248
           clear BK253
           clear BK261
           clear BK273
           clear HB
           have HO_244001 := n0_
           have HO_249001 := n1_
           have HO_254001 := n2_
           have HO_262001 := n3_
           have HO271 := n4_
           have HO278 := n5_
           have HO282 := n6_
           have HO286 := n7_
           have HO290 := n8_
           have HO295 := n9_
           have HO299 := n10_
           have HO304 := n11_
           have HO308 := n12_
           have HO313 := n13_
           have BK243 := n14_
           have BK248 := n15_
           have BK253 := n16_
           have BK261 := n17_
           have BK273 := n18_
           have HB := n19_
           clear n0_ n1_ n2_ n3_ n4_ n5_ n6_ n7_ n8_ n9_ n10_ n11_ n12_ n13_ n14_ n15_ n16_ n17_ n18_ n19_
           (try clear hb)
           (try clear hb2)
           (try clear hk)
           (try clear hi)
           (try clear ho0)
           refine hK.out _ _ ⟨(blk_cell BK261.out 0).trans rfl, (blk_cell BK261.out 1).trans rfl, (blk_cell BK253.out 0).trans rfl, (blk_cell BK253.out 1).trans rfl, (blk_cell BK243.out 0).trans rfl, (blk_cell BK243.out 1).trans rfl, (blk_cell BK248.out 0).trans rfl, (blk_cell BK248.out 1).trans rfl, (blk_cell BK273.out 0).trans rfl, (blk_cell BK273.out 1).trans rfl⟩ (fun hHeld => ?_)
           clear hK K
           refine norm_ (a' := ?_) ?_ ?_
           rotate_left
           ·show Act.put _ (some 126) _ = _
            simp only [Act.put, List.setIfInBounds_toArray, List.set_cons_zero, List.set_cons_succ, i64_w, i32_w]
            rfl
           refine one_ (i := 35) (N := some 128) #[true, true, true, true, true, true, true, true, true, true, true, true, true, true, true, true, true, true, true, true, true, true, true, true, true, true, true, true, true, true, true, true, true, true, true, true, false, false, false] rfl rfl (one_of HT_.out (by kernel_rfl)) (by decide) (fun K hK => ?_)
           refine goes_ Try.func19 (by kernel_rfl) rfl #[.agg #[.int .i64 t239, .slice Ao15 t240.length co15]] (by rfl) rfl rfl (by (try simp only [List.map_toArray, List.map_cons, List.map_nil]); first | done | rfl | (simp only [List.length_drop, List.length_take]; rfl)) ?_
           with_reducible refine (rootcellarlaw9_as.calls k2 t239 _ _ t240 t314 t315 _ ?side1 ?side2 A104.out).mono ?_
           (case side1 => repeat (first | exact (Kd.R_reads' HO_244001.out).2.2 | (with_reducible refine Kd.C_alloc ?_ _) | (with_reducible refine Kd.C_drewN ?_ _) | (with_reducible refine Kd.C_drew ?_)))
           (case side2 => exact (Kd.R_reads' HO_244001.out).2.1)
           rintro e w137 ⟨v316, rfl, ho0, hb⟩
           refine ⟨_, rfl, ?_⟩
           have n0_ := Aside0.mk (Kd.R_below (by (with_reducible repeat (first | apply Kd.R_alloc | apply Kd.R_drewN | apply Kd.R_drew)); exact HO_244001.out) hb)
           have n1_ := Aside0.mk (Kd.R_below (by (with_reducible repeat (first | apply Kd.R_alloc | apply Kd.R_drewN | apply Kd.R_drew)); exact HO_249001.out) hb)
           have n2_ := Aside0.mk (Kd.R_below (by (with_reducible repeat (first | apply Kd.R_alloc | apply Kd.R_drewN | apply Kd.R_drew)); exact HO_254001.out) hb)
           have n3_ := Aside0.mk (Kd.V_elder' (by (with_reducible repeat (first | apply Kd.V_alloc | apply Kd.V_drewN | apply Kd.V_drew)); exact HO_262001.out) (Kd.R_base ho0) hb)
           have n4_ := Aside0.mk (Kd.R_below (by (with_reducible repeat (first | apply Kd.R_alloc | apply Kd.R_drewN | apply Kd.R_drew)); exact HO271.out) hb)
           have n5_ := Aside0.mk (Kd.V_elder' (by (with_reducible repeat (first | apply Kd.V_alloc | apply Kd.V_drewN | apply Kd.V_drew)); exact HO278.out) (Kd.R_base ho0) hb)
           have n6_ := Aside0.mk (Kd.V_elder' (by (with_reducible repeat (first | apply Kd.V_alloc | apply Kd.V_drewN | apply Kd.V_drew)); exact HO282.out) (Kd.R_base ho0) hb)
           have n7_ := Aside0.mk (Kd.V_elder' (by (with_reducible repeat (first | apply Kd.V_alloc | apply Kd.V_drewN | apply Kd.V_drew)); exact HO286.out) (Kd.R_base ho0) hb)
           have n8_ := Aside0.mk (Kd.R_elder' (by (with_reducible repeat (first | apply Kd.R_alloc | apply Kd.R_drewN | apply Kd.R_drew)); exact HO290.out) (Kd.R_base ho0) hb)
           have n9_ := Aside0.mk (Kd.V_elder' (by (with_reducible repeat (first | apply Kd.V_alloc | apply Kd.V_drewN | apply Kd.V_drew)); exact HO295.out) (Kd.R_base ho0) hb)
           have n10_ := Aside0.mk (Kd.R_elder' (by (with_reducible repeat (first | apply Kd.R_alloc | apply Kd.R_drewN | apply Kd.R_drew)); exact HO299.out) (Kd.R_base ho0) hb)
           have n11_ := Aside0.mk (Kd.V_elder' (by (with_reducible repeat (first | apply Kd.V_alloc | apply Kd.V_drewN | apply Kd.V_drew)); exact HO304.out) (Kd.R_base ho0) hb)
           have n12_ := Aside0.mk (Kd.R_elder' (by (with_reducible repeat (first | apply Kd.R_alloc | apply Kd.R_drewN | apply Kd.R_drew)); exact HO308.out) (Kd.R_base ho0) hb)
           have n13_ := Aside0.mk (Kd.V_elder' (by (with_reducible repeat (first | apply Kd.V_alloc | apply Kd.V_drewN | apply Kd.V_drew)); exact HO313.out) (Kd.R_base ho0) hb)
           have n14_ := Aside0.mk (Kd.R_lower (Kd.R_new' (Kd.R_new' (Kd.R_new' ho0 (Kd.R_lt (by (with_reducible repeat (first | apply Kd.R_alloc | apply Kd.R_drewN | apply Kd.R_drew)); exact HO290.out))) (Kd.R_lt (by (with_reducible repeat (first | apply Kd.R_alloc | apply Kd.R_drewN | apply Kd.R_drew)); exact HO299.out))) (Kd.R_lt (by (with_reducible repeat (first | apply Kd.R_alloc | apply Kd.R_drewN | apply Kd.R_drew)); exact HO308.out))) (below_size (by repeat (first | (with_reducible first | exact HB.out | apply below_alloc | apply pw_below_drewN | apply below_drew1 | refine below_set ?_ GE243.out | refine below_set ?_ GE248.out | refine below_set ?_ GE253.out | refine below_set ?_ GE261.out | refine below_set ?_ GE273.out) | exact HB.out))))
           have n15_ := Aside0.mk (blk_below (g := gb243) (o := .cells #[.int .i64 t239, .slice Ao15 t240.length co15] 27 (0, 0)) (by (with_reducible repeat (first | refine blk_drewN ?_ _ | refine blk_drew ?_ | refine blk_alloc ?_ _)); exact BK243.out) hb)
           have n16_ := Aside0.mk (blk_below (g := gb248) (o := .cells #[.int .i64 t244, .slice Ao20 t245.length co20] 27 (0, 0)) (by (with_reducible repeat (first | refine blk_drewN ?_ _ | refine blk_drew ?_ | refine blk_alloc ?_ _)); exact BK248.out) hb)
           have n17_ := Aside0.mk (blk_below (g := gb253) (o := .cells #[.int .i64 t249, .slice Ao26 t250.length co26] 27 (0, 0)) (by (with_reducible repeat (first | refine blk_drewN ?_ _ | refine blk_drew ?_ | refine blk_alloc ?_ _)); exact BK253.out) hb)
           have n18_ := Aside0.mk (blk_below (g := gb261) (o := .cells #[.int .i64 t257, .slice Ao55 t258.length co55] 27 (0, 0)) (by (with_reducible repeat (first | refine blk_drewN ?_ _ | refine blk_drew ?_ | refine blk_alloc ?_ _)); exact BK261.out) hb)
           have n19_ := Aside0.mk (blk_below (g := gb273) (o := .cells #[.int .i64 t268, .slice Ao113 t269.length co113] 27 (0, 0)) (by (with_reducible repeat (first | refine blk_drewN ?_ _ | refine blk_drew ?_ | refine blk_alloc ?_ _)); exact BK273.out) hb)
           have n20_ := Aside0.mk (below_step (by repeat (first | (with_reducible first | exact HB.out | apply below_alloc | apply pw_below_drewN | apply below_drew1 | refine below_set ?_ GE243.out | refine below_set ?_ GE248.out | refine below_set ?_ GE253.out | refine below_set ?_ GE261.out | refine below_set ?_ GE273.out) | exact HB.out)) hb)
           clear HO_244001
           clear HO_249001
           clear HO_254001
           clear HO_262001
           clear HO271
           clear HO278
           clear HO282
           clear HO286
           clear HO290
           clear HO295
           clear HO299
           clear HO304
           clear HO308
           clear HO313
           clear BK243
           clear BK248
           clear BK253
           clear BK261
           clear BK273
           clear HB
           have HO_244001 := n0_
           have HO_249001 := n1_
           have HO_254001 := n2_
           have HO_262001 := n3_
           have HO271 := n4_
           have HO278 := n5_
           have HO282 := n6_
           have HO286 := n7_
           have HO290 := n8_
           have HO295 := n9_
           have HO299 := n10_
           have HO304 := n11_
           have HO308 := n12_
           have HO313 := n13_
           have HO317 := n14_
           have BK243 := n15_
           have BK248 := n16_
           have BK253 := n17_
           have BK261 := n18_
           have BK273 := n19_
           have HB := n20_
           clear n0_ n1_ n2_ n3_ n4_ n5_ n6_ n7_ n8_ n9_ n10_ n11_ n12_ n13_ n14_ n15_ n16_ n17_ n18_ n19_ n20_
           (try clear hb)
           (try clear hb2)
           (try clear hk)
           (try clear hi)
           (try clear ho0)
           obtain ⟨Ao138, co138, eo138⟩ := Kd.V_slice HO313.out
           (first | subst eo138 | (injection eo138 with f1_ f2_ f3_; have f4_ := f1_.symm; have f5_ := f3_.symm; clear f1_ f2_ f3_; subst f4_; subst f5_))
           obtain ⟨Ao139, co139, eo139⟩ := Kd.R_slice HO317.out
           (first | subst eo139 | (injection eo139 with f1_ f2_ f3_; have f4_ := f1_.symm; have f5_ := f3_.symm; clear f1_ f2_ f3_; subst f4_; subst f5_))
           refine hK.out _ _ ⟨(blk_cell BK261.out 0).trans rfl, (blk_cell BK261.out 1).trans rfl, (blk_cell BK253.out 0).trans rfl, (blk_cell BK253.out 1).trans rfl, (blk_cell BK243.out 0).trans rfl, (blk_cell BK243.out 1).trans rfl, (blk_cell BK248.out 0).trans rfl, (blk_cell BK248.out 1).trans rfl, (blk_cell BK273.out 0).trans rfl, (blk_cell BK273.out 1).trans rfl⟩ (fun hHeld => ?_)
           clear hK K
           refine norm_ (a' := ?_) ?_ ?_
           rotate_left
           ·show Act.put _ (some 128) _ = _
            simp only [Act.put, List.setIfInBounds_toArray, List.set_cons_zero, List.set_cons_succ, i64_w, i32_w]
            rfl
           refine one_ (i := 36) (N := some 129) #[true, true, true, true, true, true, true, true, true, true, true, true, true, true, true, true, true, true, true, true, true, true, true, true, true, true, true, true, true, true, true, true, true, true, true, true, true, false, false] rfl rfl (one_of HT_.out (by kernel_rfl)) (by decide) (fun K hK => ?_)
           refine goes_ Try.func18 (by kernel_rfl) rfl #[.agg #[.int .i64 t310, .slice Ao138 t311.length co138], .agg #[.int .i64 t314, .slice Ao139 t315.length co139]] (by rfl) rfl rfl (by (try simp only [List.map_toArray, List.map_cons, List.map_nil]); first | done | rfl | (simp only [List.length_drop, List.length_take]; rfl)) ?_
           with_reducible refine (rootcellarlaw9_same.calls k2 t310 _ _ t311 t314 _ _ t315 t318 _ ?side1 ?side2 ?side3 ?side4 A105.out).mono ?_
           (case side1 => repeat (first | exact (Kd.V_reads' HO313.out).2.2 | (with_reducible refine Kd.C_alloc ?_ _) | (with_reducible refine Kd.C_drewN ?_ _) | (with_reducible refine Kd.C_drew ?_)))
           (case side2 => exact (Kd.V_reads' HO313.out).2.1)
           (case side3 => repeat (first | exact (Kd.R_reads' HO317.out).2.2 | (with_reducible refine Kd.C_alloc ?_ _) | (with_reducible refine Kd.C_drewN ?_ _) | (with_reducible refine Kd.C_drew ?_)))
           (case side4 => exact (Kd.R_reads' HO317.out).2.1)
           rintro e w140 ⟨rfl, hb⟩
           refine ⟨_, rfl, ?_⟩
           have n0_ := Aside0.mk (Kd.R_below (by (with_reducible repeat (first | apply Kd.R_alloc | apply Kd.R_drewN | apply Kd.R_drew)); exact HO_244001.out) hb)
           have n1_ := Aside0.mk (Kd.R_below (by (with_reducible repeat (first | apply Kd.R_alloc | apply Kd.R_drewN | apply Kd.R_drew)); exact HO_249001.out) hb)
           have n2_ := Aside0.mk (Kd.R_below (by (with_reducible repeat (first | apply Kd.R_alloc | apply Kd.R_drewN | apply Kd.R_drew)); exact HO_254001.out) hb)
           have n3_ := Aside0.mk (Kd.V_below (by (with_reducible repeat (first | apply Kd.V_alloc | apply Kd.V_drewN | apply Kd.V_drew)); exact HO_262001.out) hb)
           have n4_ := Aside0.mk (Kd.R_below (by (with_reducible repeat (first | apply Kd.R_alloc | apply Kd.R_drewN | apply Kd.R_drew)); exact HO271.out) hb)
           have n5_ := Aside0.mk (Kd.V_below (by (with_reducible repeat (first | apply Kd.V_alloc | apply Kd.V_drewN | apply Kd.V_drew)); exact HO278.out) hb)
           have n6_ := Aside0.mk (Kd.V_below (by (with_reducible repeat (first | apply Kd.V_alloc | apply Kd.V_drewN | apply Kd.V_drew)); exact HO282.out) hb)
           have n7_ := Aside0.mk (Kd.V_below (by (with_reducible repeat (first | apply Kd.V_alloc | apply Kd.V_drewN | apply Kd.V_drew)); exact HO286.out) hb)
           have n8_ := Aside0.mk (Kd.R_below (by (with_reducible repeat (first | apply Kd.R_alloc | apply Kd.R_drewN | apply Kd.R_drew)); exact HO290.out) hb)
           have n9_ := Aside0.mk (Kd.V_below (by (with_reducible repeat (first | apply Kd.V_alloc | apply Kd.V_drewN | apply Kd.V_drew)); exact HO295.out) hb)
           have n10_ := Aside0.mk (Kd.R_below (by (with_reducible repeat (first | apply Kd.R_alloc | apply Kd.R_drewN | apply Kd.R_drew)); exact HO299.out) hb)
           have n11_ := Aside0.mk (Kd.V_below (by (with_reducible repeat (first | apply Kd.V_alloc | apply Kd.V_drewN | apply Kd.V_drew)); exact HO304.out) hb)
           have n12_ := Aside0.mk (Kd.R_below (by (with_reducible repeat (first | apply Kd.R_alloc | apply Kd.R_drewN | apply Kd.R_drew)); exact HO308.out) hb)
           have n13_ := Aside0.mk (Kd.V_below (by (with_reducible repeat (first | apply Kd.V_alloc | apply Kd.V_drewN | apply Kd.V_drew)); exact HO313.out) hb)
           have n14_ := Aside0.mk (Kd.R_below (by (with_reducible repeat (first | apply Kd.R_alloc | apply Kd.R_drewN | apply Kd.R_drew)); exact HO317.out) hb)
           have n15_ := Aside0.mk (blk_below (g := gb243) (o := .cells #[.int .i64 t239, .slice Ao15 t240.length co15] 27 (0, 0)) (by (with_reducible repeat (first | refine blk_drewN ?_ _ | refine blk_drew ?_ | refine blk_alloc ?_ _)); exact BK243.out) hb)
           have n16_ := Aside0.mk (blk_below (g := gb248) (o := .cells #[.int .i64 t244, .slice Ao20 t245.length co20] 27 (0, 0)) (by (with_reducible repeat (first | refine blk_drewN ?_ _ | refine blk_drew ?_ | refine blk_alloc ?_ _)); exact BK248.out) hb)
           have n17_ := Aside0.mk (blk_below (g := gb253) (o := .cells #[.int .i64 t249, .slice Ao26 t250.length co26] 27 (0, 0)) (by (with_reducible repeat (first | refine blk_drewN ?_ _ | refine blk_drew ?_ | refine blk_alloc ?_ _)); exact BK253.out) hb)
           have n18_ := Aside0.mk (blk_below (g := gb261) (o := .cells #[.int .i64 t257, .slice Ao55 t258.length co55] 27 (0, 0)) (by (with_reducible repeat (first | refine blk_drewN ?_ _ | refine blk_drew ?_ | refine blk_alloc ?_ _)); exact BK261.out) hb)
           have n19_ := Aside0.mk (blk_below (g := gb273) (o := .cells #[.int .i64 t268, .slice Ao113 t269.length co113] 27 (0, 0)) (by (with_reducible repeat (first | refine blk_drewN ?_ _ | refine blk_drew ?_ | refine blk_alloc ?_ _)); exact BK273.out) hb)
           have n20_ := Aside0.mk (below_step (by repeat (first | (with_reducible first | exact HB.out | apply below_alloc | apply pw_below_drewN | apply below_drew1 | refine below_set ?_ GE243.out | refine below_set ?_ GE248.out | refine below_set ?_ GE253.out | refine below_set ?_ GE261.out | refine below_set ?_ GE273.out) | exact HB.out)) hb)
           clear HO_244001
           clear HO_249001
           clear HO_254001
           clear HO_262001
           clear HO271
           clear HO278
           clear HO282
           clear HO286
           clear HO290
           clear HO295
           clear HO299
           clear HO304
           clear HO308
           clear HO313
           clear HO317
           clear BK243
           clear BK248
           clear BK253
           clear BK261
           clear BK273
           clear HB
           have HO_244001 := n0_
           have HO_249001 := n1_
           have HO_254001 := n2_
           have HO_262001 := n3_
           have HO271 := n4_
           have HO278 := n5_
           have HO282 := n6_
           have HO286 := n7_
           have HO290 := n8_
           have HO295 := n9_
           have HO299 := n10_
           have HO304 := n11_
           have HO308 := n12_
           have HO313 := n13_
           have HO317 := n14_
           have BK243 := n15_
           have BK248 := n16_
           have BK253 := n17_
           have BK261 := n18_
           have BK273 := n19_
           have HB := n20_
           clear n0_ n1_ n2_ n3_ n4_ n5_ n6_ n7_ n8_ n9_ n10_ n11_ n12_ n13_ n14_ n15_ n16_ n17_ n18_ n19_ n20_
           (try clear hb)
           (try clear hb2)
           (try clear hk)
           (try clear hi)
           refine hK.out _ _ ⟨(blk_cell BK261.out 0).trans rfl, (blk_cell BK261.out 1).trans rfl, (blk_cell BK253.out 0).trans rfl, (blk_cell BK253.out 1).trans rfl, (blk_cell BK243.out 0).trans rfl, (blk_cell BK243.out 1).trans rfl, (blk_cell BK248.out 0).trans rfl, (blk_cell BK248.out 1).trans rfl, (blk_cell BK273.out 0).trans rfl, (blk_cell BK273.out 1).trans rfl⟩ (fun hHeld => ?_)
           clear hK K
           refine norm_ (a' := ?_) ?_ ?_
           rotate_left
           ·show Act.put _ (some 129) _ = _
            simp only [Act.put, List.setIfInBounds_toArray, List.set_cons_zero, List.set_cons_succ, i64_w, i32_w]
            rfl
           refine pure_ (i := 37) (N := some 130) (v := ?_) (a' := ?_) #[true, true, true, true, true, true, true, true, true, true, true, true, true, true, true, true, true, true, true, true, true, true, true, true, true, true, true, true, true, true, true, true, true, true, true, true, true, true, false] rfl rfl (any_of HT_.out (by kernel_rfl)) (fun _ _ _ h => h) (Or.inl ⟨by rfl, ?_⟩) ?_ ?_
           rotate_left
           ·intro w'
            go_simp
            with_reducible rfl
           rotate_left
           ·simp only [Act.put, List.setIfInBounds_toArray, List.set_cons_zero, List.set_cons_succ, i64_w, i32_w]
            rfl
           refine pure_ (i := 38) (N := some 8) (v := ?_) (a' := ?_) #[true, true, true, true, true, true, true, true, true, true, true, true, true, true, true, true, true, true, true, true, true, true, true, true, true, true, true, true, true, true, true, true, true, true, true, true, true, true, true] rfl rfl (any_of HT_.out (by kernel_rfl)) (fun _ _ _ h => h) (Or.inl ⟨by rfl, ?_⟩) ?_ ?_
           rotate_left
           ·intro w'
            go_simp
            with_reducible rfl
           rotate_left
           ·simp only [Act.put, List.setIfInBounds_toArray, List.set_cons_zero, List.set_cons_succ, i64_w, i32_w]
            rfl
           refine done_ (done_of HT_.out (by kernel_rfl)) ?_
           try go_wp2
           go_ret
           exact ⟨by first | rfl | (simp [errW_none, errW_some] <;> rfl) | (simp [*, errW_none, errW_some] <;> rfl), by repeat (first | (with_reducible first | exact HB.out | apply below_alloc | apply pw_below_drewN | apply below_drew1 | refine below_set ?_ GE243.out | refine below_set ?_ GE248.out | refine below_set ?_ GE253.out | refine below_set ?_ GE261.out | refine below_set ?_ GE273.out) | exact HB.out)⟩
          ·replace c102 := Bool.eq_false_iff.mpr c102
           subst c102
           have H1 : (none) = some r := by rw [if_neg (show ¬ (false = true) by decide)] at H; exact H
           clear H
           have H := H1
           clear H1
           exact absurd H (by simp)
         ·replace c98 := Bool.eq_false_iff.mpr c98
          subst c98
          have H1 : (none) = some r := by rw [if_neg (show ¬ (false = true) by decide)] at H; exact H
          clear H
          have H := H1
          clear H1
          exact absurd H (by simp)
        ·replace c94 := Bool.eq_false_iff.mpr c94
         subst c94
         have H1 : (none) = some r := by rw [if_neg (show ¬ (false = true) by decide)] at H; exact H
         clear H
         have H := H1
         clear H1
         exact absurd H (by simp)
       ·replace c88 := Bool.eq_false_iff.mpr c88
        subst c88
        have H1 : (none) = some r := by rw [if_neg (show ¬ (false = true) by decide)] at H; exact H
        clear H
        have H := H1
        clear H1
        exact absurd H (by simp)

/-- THE ONE PURE STATEMENT of rootcellarlaw9_CellThrough: yours. -/
def rootcellarlaw9_CellThrough.Pure : Prop := ∀ (a0 : Int) (l1 : List Int) (l2 : List Int) (l3 : List Int), (Lit.int .i64 a0).wf = true → l1.length ≤ maxLen → l1.length * 8 ≤ 140737488351232 → (∀ x ∈ l1, (Lit.int .i64 x).wf = true) → l2.length ≤ maxLen → l2.length * 8 ≤ 140737488351232 → (∀ x ∈ l2, (Lit.int .i64 x).wf = true) → l3.length ≤ maxLen → l3.length * 8 ≤ 140737488351232 → (∀ x ∈ l3, (Lit.int .i64 x).wf = true) → ∃ k, rootcellarlaw9_CellThrough.f k a0 l1 l2 l3 = some true
theorem rootcellarlaw9_CellThrough.walk (P : rootcellarlaw9_CellThrough.Pure) (a0 : Int) (a1 : Option Addr) (len1 cap1 : Nat) (z1 : List Int) (a2 : Option Addr) (len2 cap2 : Nat) (z2 : List Int) (a3 : Option Addr) (len3 cap3 : Nat) (z3 : List Int) (w : World) (w0 : (Lit.int .i64 a0).wf = true) (w1 : (a1 = none ∧ len1 = 0 ∧ cap1 = 0 ∧ z1 = []) ∨ ∃ x, a1 = some x ∧ len1 ≤ cap1 ∧ cap1 ≤ maxLen ∧ z1.length = cap1 ∧ (∀ i, i < z1.length → w.cell? (x.add i) = some (.int .i64 (z1.getD i 0))) ∧ ∀ n ∈ z1, (Lit.int .i64 n).wf = true) (y1 : len1 * 8 ≤ 140737488351232) (w2 : (a2 = none ∧ len2 = 0 ∧ cap2 = 0 ∧ z2 = []) ∨ ∃ x, a2 = some x ∧ len2 ≤ cap2 ∧ cap2 ≤ maxLen ∧ z2.length = cap2 ∧ (∀ i, i < z2.length → w.cell? (x.add i) = some (.int .i64 (z2.getD i 0))) ∧ ∀ n ∈ z2, (Lit.int .i64 n).wf = true) (y2 : len2 * 8 ≤ 140737488351232) (w3 : (a3 = none ∧ len3 = 0 ∧ cap3 = 0 ∧ z3 = []) ∨ ∃ x, a3 = some x ∧ len3 ≤ cap3 ∧ cap3 ≤ maxLen ∧ z3.length = cap3 ∧ (∀ i, i < z3.length → w.cell? (x.add i) = some (.int .i64 (z3.getD i 0))) ∧ ∀ n ∈ z3, (Lit.int .i64 n).wf = true) (y3 : len3 * 8 ≤ 140737488351232) :
  Calls Try.prog 4 #[.int .i64 a0, .slice a1 len1 cap1, .slice a2 len2 cap2, .slice a3 len3 cap3] w fun e w' => e = .returned (.bool true) ∧ Below w.heap.size w w' := by
 obtain ⟨l1, rfl, hr1, hm1, hw1, hc1⟩ := ReadsInt.ofRowC w1
 obtain ⟨l2, rfl, hr2, hm2, hw2, hc2⟩ := ReadsInt.ofRowC w2
 obtain ⟨l3, rfl, hr3, hm3, hw3, hc3⟩ := ReadsInt.ofRowC w3
 obtain ⟨k, h⟩ := P a0 l1 l2 l3 w0 hm1 y1 hw1 hm2 y2 hw2 hm3 y3 hw3
 refine (rootcellarlaw9_CellThrough.calls k a0 _ _ l1 _ _ l2 _ _ l3 true w (Kd.C_of_reads (d := (0 : Int)) (h1 := fun _ => rfl) hr1) hc1 (Kd.C_of_reads (d := (0 : Int)) (h1 := fun _ => rfl) hr2) hc2 (Kd.C_of_reads (d := (0 : Int)) (h1 := fun _ => rfl) hr3) hc3 h).mono ?_
 rintro e w' ⟨rfl, hd⟩
 exact ⟨rfl, hd⟩

end Go.Proofs.Ytnjhgbhafpnclaa.Pr
