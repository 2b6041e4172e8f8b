-- Printed by a program of this session (wip/pr/hook.py) by way of the kit's printer; contracts of my own beside it.
import Derived.Test.YtnjhgbhafpnclaaPrx0
import Derived.Test.YtnjhgbhafpnclaaPrx13
namespace Go.Proofs.Ytnjhgbhafpnclaa.Pr
open Go.RowKit Go.Proofs.YtnjhgbhafpnclaaW.PrintWords Go.Proofs.YtnjhgbhafpnclaaW.PrintLast Go.Proofs.YtnjhgbhafpnclaaW.PrintMore
attribute [local go_sem] max2_int min2_int max_two min_two max_three min_three max_four min_four   -- for this text's walks alone
set_option linter.unusedVariables false
set_option linter.unusedSimpArgs false

/-! ### rootcellarref9_with: function 33 -/
def rootcellarref9_with.l0 : Nat → Bool → Int → Int → ByteArray → Int → List (S64) → Int → List (S64) → Option (Int × (List (S64)))
 | 0, _, _, _, _, _, _, _, _ => none
 | k + 1, x8, x9, x331000, x331001, x338000, x338001, x339000, x339001 => if x9 < (x338001.length : Int) then (if x8 = true then (if 0 ≤ x9 then (if x339001.length < 5864062014805 then (rootcellarref9_with.l0 k x8 (wrap64 (x9 + 1)) x331000 x331001 x338000 x338001 x339000 (x339001 ++ [(⟨(rd_T64 x338001 x9).f0, (rd_T64 x338001 x9).f1⟩ : S64)])) else (none)) else (none)) else (if 0 ≤ x9 then (if x331000 < ((rd_T64 x338001 x9).f0) then (if x339001.length < 5864062014805 then ((some (x339001 ++ [(⟨x331000, x331001⟩ : S64)] : List (S64))).bind fun y344 => (if y344.length < 5864062014805 then (rootcellarref9_with.l0 k true (wrap64 (x9 + 1)) x331000 x331001 x338000 x338001 x339000 (y344 ++ [(⟨(rd_T64 x338001 x9).f0, (rd_T64 x338001 x9).f1⟩ : S64)])) else (none))) else (none)) else (if x339001.length < 5864062014805 then (rootcellarref9_with.l0 k x8 (wrap64 (x9 + 1)) x331000 x331001 x338000 x338001 x339000 (x339001 ++ [(⟨(rd_T64 x338001 x9).f0, (rd_T64 x338001 x9).f1⟩ : S64)])) else (none))) else (none))) else (if x8 = true then (some (x339000, x339001)) else (if x339001.length < 5864062014805 then (some (x339000, (x339001 ++ [(⟨x331000, x331001⟩ : S64)]))) else (none)))
def rootcellarref9_with.f (k : Nat) (a0_0 : Int) (l0_1 : List (S64)) (a1_0 : Int) (a1_1 : ByteArray) : Option (Int × (List (S64))) := (rootcellarref9_Drop.f k a0_0 l0_1 a1_0).bind fun bt332 => (rootcellarref9_with.l0 k false 0 a1_0 a1_1 bt332.1 bt332.2.1 a0_0 ([] : List (S64)))
theorem rootcellarref9_with.mono_l : ∀ k, (∀ y0 y1 y2 y3 y4 y5 y6 y7, LeO (rootcellarref9_with.l0 k y0 y1 y2 y3 y4 y5 y6 y7) (rootcellarref9_with.l0 (k + 1) y0 y1 y2 y3 y4 y5 y6 y7))
 | 0 => fun _ _ _ _ _ _ _ _ r h => by simp [rootcellarref9_with.l0] at h
 | k + 1 => by
  have ih0 := rootcellarref9_with.mono_l k
  ·intro y0 y1 y2 y3 y4 y5 y6 y7
   unfold rootcellarref9_with.l0
   repeat' first
   | (with_reducible exact ih0 _ _ _ _ _ _ _ _)
   | (with_reducible exact rootcellarref9_Drop.mono _ _ _ _)
   | (with_reducible exact LeO.refl _)
   | (with_reducible exact LeO.none _)
   | (with_reducible refine LeO.ite ?_ ?_)
   | (with_reducible refine LeO.bind ?_ (fun _ => ?_))
   | exact ih0 _ _ _ _ _ _ _ _
   | exact rootcellarref9_Drop.mono _ _ _ _
   | exact LeO.none _
   | refine LeO.ite ?_ ?_
   | refine LeO.bind ?_ (fun _ => ?_)
theorem rootcellarref9_with.mono : ∀ a0 a1 a2 a3 k, LeO (rootcellarref9_with.f k a0 a1 a2 a3) (rootcellarref9_with.f (k + 1) a0 a1 a2 a3) := by
 intro a0 a1 a2 a3 k
 have ih0 := rootcellarref9_with.mono_l k
 unfold rootcellarref9_with.f
 repeat' first
   | (with_reducible exact ih0 _ _ _ _ _ _ _ _)
   | (with_reducible exact rootcellarref9_Drop.mono _ _ _ _)
   | (with_reducible exact LeO.refl _)
   | (with_reducible exact LeO.none _)
   | (with_reducible refine LeO.ite ?_ ?_)
   | (with_reducible refine LeO.bind ?_ (fun _ => ?_))
   | exact ih0 _ _ _ _ _ _ _ _
   | exact rootcellarref9_Drop.mono _ _ _ _
   | exact LeO.none _
   | refine LeO.ite ?_ ?_
   | refine LeO.bind ?_ (fun _ => ?_)
def rootcellarref9_with.T7 : Bool × List (List Nat × List Nat) := (true, [([], []), ([0], [0]), ([1], [1]), ([2], [2]), ([3, 2], [2, 3]), ([2], [2]), ([5, 2], [2, 5]), ([2], [2]), ([6, 7, 2], [2, 6, 7]), ([8, 2], [2, 8]), ([9, 2], [2, 9]), ([4, 10, 2], [2, 4, 10]), ([2, 11], [2, 11])])
def rootcellarref9_with.B7 : List Nat := [0, 1, 3, 7, 15, 7, 39, 7, 231, 487, 999, 2047, 4095]
theorem rootcellarref9_with.tab7 : rtab .any (opsOf Try.f33 7) = rootcellarref9_with.T7 := by kernel_rfl
theorem rootcellarref9_with.bits7 : waitsOk rootcellarref9_with.T7.2 rootcellarref9_with.B7 = true := by kernel_rfl
def rootcellarref9_with.T10 : Bool × List (List Nat × List Nat) := (true, [([], []), ([0], [0]), ([], []), ([2], [2]), ([], []), ([3, 4], [3, 4]), ([5], [5]), ([6], [6]), ([1, 7], [1, 7]), ([0, 1, 2, 3, 4, 5, 6, 7, 8], []), ([9, 8, 8, 0, 1, 2, 3, 4, 5, 6, 7, 8], [8, 9])])
def rootcellarref9_with.B10 : List Nat := [0, 1, 0, 4, 0, 28, 60, 124, 255, 511, 1023]
theorem rootcellarref9_with.tab10 : rtab .any (opsOf Try.f33 10) = rootcellarref9_with.T10 := by kernel_rfl
theorem rootcellarref9_with.bits10 : waitsOk rootcellarref9_with.T10.2 rootcellarref9_with.B10 = true := by kernel_rfl
set_option maxHeartbeats 8000000 in
set_option maxRecDepth 100000 in
theorem rootcellarref9_with.calls (k : Nat) (a0_0 : Int) (A0_1 : Option Addr) (c0_1 : Nat) (l0_1 : List (S64)) (a1_0 : Int) (a1_1 : ByteArray) (r1 : Int) (r2 : List (S64)) (w : World) (hr0_1 : Kd.C k64 w A0_1 l0_1.length l0_1) (hc0_1 : l0_1.length ≤ c0_1) (h : rootcellarref9_with.f k a0_0 l0_1 a1_0 a1_1 = some (r1, r2)) :
  Calls Try.prog 33 #[.agg #[.int .i64 a0_0, .slice A0_1 l0_1.length c0_1], .agg #[.int .i64 a1_0, .string a1_1]] w fun e w' => ∃ v1_ : Value, e = .returned (.agg #[.int .i64 r1, v1_]) ∧ Kd.R k64 64 w' w.heap.size (fun _ => True) v1_ r2 ∧ Below w.heap.size w w' := by
 have hu43 := Try.underlying43
 have hu64 := Try.underlying64
 have HR0_1 := Aside0.mk hr0_1
 have HC0_1 := Aside0.mk hc0_1
 clear hr0_1 hc0_1
 have HB := Aside0.mk (Below.refl w.heap.size w)
 have H : ((rootcellarref9_Drop.f k a0_0 l0_1 a1_0).bind fun bt332 => (rootcellarref9_with.l0 k false 0 a1_0 a1_1 bt332.1 bt332.2.1 a0_0 ([] : List (S64)))) = some (r1, r2) := h
 clear h
 replace H := Option.bind_eq_some_iff.mp H
 obtain ⟨⟨t332, t333, t336⟩, A30, H⟩ := H
 replace H : (rootcellarref9_with.l0 k false 0 a1_0 a1_1 t332 t333 a0_0 ([] : List (S64))) = some (r1, r2) := H
 have A3 := Aside0.mk A30
 clear A30
 have H' := Aside0.mk H
 clear H
 go_enter Try.func33, Try.ntmps33
 go_wp2_with (first | ((with_reducible refine gate_dst (N := 2) rfl ?_); refine box_event ?hg (N := 2) ?hd (cs := #[.int .i64 a0_0, .slice A0_1 l0_1.length c0_1]) (t := 43) ?hr ?_; (case hd => rfl); (case hg => rfl); (case hr => first | (go_simp; done) | (go_simp; rfl)); intro gb329 hg w4 hbox hb; have n0_ := Aside0.mk (below_step (by repeat (first | (with_reducible first | exact HB.out | apply below_alloc | apply pw_below_drewN | apply below_drew1) | exact HB.out)) hb); have n1_ := Aside0.mk (hbox); have n2_ := Aside0.mk ((by rw [hg]; exact (below_size (by repeat (first | (with_reducible first | exact HB.out | apply below_alloc | apply pw_below_drewN | apply below_drew1) | exact HB.out))) : w.heap.size ≤ gb329)); have n3_ := Aside0.mk ((by rw [hg]; exact (below_size (by repeat (first | (with_reducible first | exact HB.out | apply below_alloc | apply pw_below_drewN | apply below_drew1) | exact HB.out))) : w.heap.size ≤ gb329)); clear HB; have HB := n0_; have BK329 := n1_; have GW329 := n2_; have GE329 := n3_; clear n0_ n1_ n2_ n3_; clear hb hbox hg) | ((with_reducible refine gate_dst (N := 3) rfl ?_); refine box_event ?hg (N := 3) ?hd (cs := #[.int .i64 a1_0, .string a1_1]) (t := 64) ?hr ?_; (case hd => rfl); (case hg => rfl); (case hr => first | (go_simp; done) | (go_simp; rfl)); intro gb330 hg w5 hbox hb; have n0_ := Aside0.mk (blk_below (g := gb329) (o := .cells #[.int .i64 a0_0, .slice A0_1 l0_1.length c0_1] 43 (0, 0)) (by (with_reducible repeat (first | refine blk_drewN ?_ _ | refine blk_drew ?_ | refine blk_alloc ?_ _)); exact BK329.out) hb); have n1_ := Aside0.mk (below_step (by repeat (first | (with_reducible first | exact HB.out | apply below_alloc | apply pw_below_drewN | apply below_drew1 | refine below_set ?_ GE329.out) | exact HB.out)) hb); have n2_ := Aside0.mk (hbox); have n3_ := Aside0.mk ((by rw [hg]; exact (below_size (by repeat (first | (with_reducible first | exact HB.out | apply below_alloc | apply pw_below_drewN | apply below_drew1 | refine below_set ?_ GE329.out) | exact HB.out))) : w.heap.size ≤ gb330)); have n4_ := Aside0.mk ((by rw [hg]; exact (below_size (by repeat (first | (with_reducible first | exact HB.out | apply below_alloc | apply pw_below_drewN | apply below_drew1 | refine below_set ?_ GE329.out) | exact HB.out))) : w.heap.size ≤ gb330)); have n5_ := Aside0.mk ((by rw [hg]; exact Nat.ne_of_lt (blk_lt (g := gb329) (o := .cells #[.int .i64 a0_0, .slice A0_1 l0_1.length c0_1] 43 (0, 0)) (by (with_reducible repeat (first | refine blk_drewN ?_ _ | refine blk_drew ?_ | refine blk_alloc ?_ _)); exact BK329.out)) : gb329 ≠ gb330)); have n6_ := Aside0.mk ((by rw [hg]; exact Nat.ne_of_gt (blk_lt (g := gb329) (o := .cells #[.int .i64 a0_0, .slice A0_1 l0_1.length c0_1] 43 (0, 0)) (by (with_reducible repeat (first | refine blk_drewN ?_ _ | refine blk_drew ?_ | refine blk_alloc ?_ _)); exact BK329.out)) : gb330 ≠ gb329)); clear BK329; clear HB; have BK329 := n0_; have HB := n1_; have BK330 := n2_; have GW330 := n3_; have GE330 := n4_; have NB329_330 := n5_; have NB330_329 := n6_; clear n0_ n1_ n2_ n3_ n4_ n5_ n6_; clear hb hbox hg) | ((with_reducible refine gate_dst (N := 4) rfl ?_); refine box_event ?hg (N := 4) ?hd (cs := #[.int .i64 0, .slice none 0 0]) (t := 43) ?hr ?_; (case hd => rfl); (case hg => rfl); (case hr => first | (go_simp; done) | (go_simp; rfl)); intro gb331 hg w6 hbox hb; have n0_ := Aside0.mk (blk_below (g := gb329) (o := .cells #[.int .i64 a0_0, .slice A0_1 l0_1.length c0_1] 43 (0, 0)) (by (with_reducible repeat (first | refine blk_drewN ?_ _ | refine blk_drew ?_ | refine blk_alloc ?_ _)); exact BK329.out) hb); have n1_ := Aside0.mk (blk_below (g := gb330) (o := .cells #[.int .i64 a1_0, .string a1_1] 64 (0, 0)) (by (with_reducible repeat (first | refine blk_drewN ?_ _ | refine blk_drew ?_ | refine blk_alloc ?_ _)); exact BK330.out) hb); have n2_ := Aside0.mk (below_step (by repeat (first | (with_reducible first | exact HB.out | apply below_alloc | apply pw_below_drewN | apply below_drew1 | refine below_set ?_ GE329.out | refine below_set ?_ GE330.out) | exact HB.out)) hb); have n3_ := Aside0.mk (hbox); have n4_ := Aside0.mk ((by rw [hg]; exact (below_size (by repeat (first | (with_reducible first | exact HB.out | apply below_alloc | apply pw_below_drewN | apply below_drew1 | refine below_set ?_ GE329.out | refine below_set ?_ GE330.out) | exact HB.out))) : w.heap.size ≤ gb331)); have n5_ := Aside0.mk ((by rw [hg]; exact (below_size (by repeat (first | (with_reducible first | exact HB.out | apply below_alloc | apply pw_below_drewN | apply below_drew1 | refine below_set ?_ GE329.out | refine below_set ?_ GE330.out) | exact HB.out))) : w.heap.size ≤ gb331)); have n6_ := Aside0.mk ((by rw [hg]; exact Nat.ne_of_lt (blk_lt (g := gb329) (o := .cells #[.int .i64 a0_0, .slice A0_1 l0_1.length c0_1] 43 (0, 0)) (by (with_reducible repeat (first | refine blk_drewN ?_ _ | refine blk_drew ?_ | refine blk_alloc ?_ _)); exact BK329.out)) : gb329 ≠ gb331)); have n7_ := Aside0.mk ((by rw [hg]; exact Nat.ne_of_gt (blk_lt (g := gb329) (o := .cells #[.int .i64 a0_0, .slice A0_1 l0_1.length c0_1] 43 (0, 0)) (by (with_reducible repeat (first | refine blk_drewN ?_ _ | refine blk_drew ?_ | refine blk_alloc ?_ _)); exact BK329.out)) : gb331 ≠ gb329)); have n8_ := Aside0.mk ((by rw [hg]; exact Nat.ne_of_lt (blk_lt (g := gb330) (o := .cells #[.int .i64 a1_0, .string a1_1] 64 (0, 0)) (by (with_reducible repeat (first | refine blk_drewN ?_ _ | refine blk_drew ?_ | refine blk_alloc ?_ _)); exact BK330.out)) : gb330 ≠ gb331)); have n9_ := Aside0.mk ((by rw [hg]; exact Nat.ne_of_gt (blk_lt (g := gb330) (o := .cells #[.int .i64 a1_0, .string a1_1] 64 (0, 0)) (by (with_reducible repeat (first | refine blk_drewN ?_ _ | refine blk_drew ?_ | refine blk_alloc ?_ _)); exact BK330.out)) : gb331 ≠ gb330)); clear BK329; clear BK330; clear HB; have BK329 := n0_; have BK330 := n1_; have HB := n2_; have BK331 := n3_; have GW331 := n4_; have GE331 := n5_; have NB329_331 := n6_; have NB331_329 := n7_; have NB330_331 := n8_; have NB331_330 := n9_; clear n0_ n1_ n2_ n3_ n4_ n5_ n6_ n7_ n8_ n9_; clear hb hbox hg; have hnb7 := NB329_330.out; have hnc7 := NB330_329.out; have hnb8 := NB329_331.out; have hnc8 := NB331_329.out; have hcz9_0 : w6.cell? ⟨gb329, 0, none⟩ = some (.int .i64 a0_0) := (blk_cell BK329.out 0).trans rfl; have hcz9_1 : w6.cell? ⟨gb329, 1, none⟩ = some (.slice A0_1 l0_1.length c0_1) := (blk_cell BK329.out 1).trans rfl; have hfz9_0 := blk_frozen BK329.out 0; have hfz9_1 := blk_frozen BK329.out 1; have hnb10 := NB330_331.out; have hnc10 := NB331_330.out; have hcz11_0 : w6.cell? ⟨gb330, 0, none⟩ = some (.int .i64 a1_0) := (blk_cell BK330.out 0).trans rfl; have hcz11_1 : w6.cell? ⟨gb330, 1, none⟩ = some (.string a1_1) := (blk_cell BK330.out 1).trans rfl; have hfz11_0 := blk_frozen BK330.out 0; have hfz11_1 := blk_frozen BK330.out 1) | ((with_reducible refine gate_callee (f := 48) rfl ?_); refine goesL_ (some 14) rfl rfl Try.func48 (by kernel_rfl) rfl #[.agg #[.int .i64 a0_0, .slice A0_1 l0_1.length c0_1], .int .i64 a1_0] rfl (by (try simp only [List.map_toArray, List.map_cons, List.map_nil]); first | done | rfl | (simp only [List.length_drop, List.length_take]; rfl)) ?_; (with_reducible refine (rootcellarref9_Drop.calls k a0_0 _ _ l0_1 a1_0 t332 t333 t336 _ ?side1 ?side2 A3.out).mono ?_); (case side1 => repeat (first | exact (Kd.C_below HR0_1.out HB.out) | (with_reducible refine Kd.C_alloc ?_ _) | (with_reducible refine Kd.C_drewN ?_ _) | (with_reducible refine Kd.C_drew ?_))); (case side2 => exact HC0_1.out); rintro e w12 ⟨v334, rfl, ho0, hb⟩; refine ⟨_, rfl, ?_⟩; have n0_ := Aside0.mk (Kd.R_lower (Kd.R_newB ho0 (g := gb330) (o := .cells #[.int .i64 a1_0, .string a1_1] 64 (0, 0)) (by (with_reducible repeat (first | refine blk_drewN ?_ _ | refine blk_drew ?_ | refine blk_alloc ?_ _)); exact BK330.out)) (below_size (by repeat (first | (with_reducible first | exact HB.out | apply below_alloc | apply pw_below_drewN | apply below_drew1 | refine below_set ?_ GE329.out | refine below_set ?_ GE330.out | refine below_set ?_ GE331.out) | exact HB.out)))); have n1_ := Aside0.mk (blk_below (g := gb329) (o := .cells #[.int .i64 a0_0, .slice A0_1 l0_1.length c0_1] 43 (0, 0)) (by (with_reducible repeat (first | refine blk_drewN ?_ _ | refine blk_drew ?_ | refine blk_alloc ?_ _)); exact BK329.out) hb); have n2_ := Aside0.mk (blk_below (g := gb330) (o := .cells #[.int .i64 a1_0, .string a1_1] 64 (0, 0)) (by (with_reducible repeat (first | refine blk_drewN ?_ _ | refine blk_drew ?_ | refine blk_alloc ?_ _)); exact BK330.out) hb); have n3_ := Aside0.mk (blk_below (g := gb331) (o := .cells #[.int .i64 0, .slice none 0 0] 43 (0, 0)) (by (with_reducible repeat (first | refine blk_drewN ?_ _ | refine blk_drew ?_ | refine blk_alloc ?_ _)); exact BK331.out) hb); have n4_ := Aside0.mk (below_step (by repeat (first | (with_reducible first | exact HB.out | apply below_alloc | apply pw_below_drewN | apply below_drew1 | refine below_set ?_ GE329.out | refine below_set ?_ GE330.out | refine below_set ?_ GE331.out) | exact HB.out)) hb); clear BK329; clear BK330; clear BK331; clear HB; have HO335 := n0_; have BK329 := n1_; have BK330 := n2_; have BK331 := n3_; have HB := n4_; clear n0_ n1_ n2_ n3_ n4_; (try clear hb); (try clear hb2); (try clear hk); (try clear hi); (try clear ho0)) | ((with_reducible refine gate_dst (N := 5) rfl ?_); refine box_event ?hg (N := 5) ?hd (cs := #[.int .i64 0, .slice none 0 0]) (t := 43) ?hr ?_; (case hd => rfl); (case hg => rfl); (case hr => first | (go_simp; done) | (go_simp; rfl)); intro gb337 hg w13 hbox hb; have n0_ := Aside0.mk (Kd.R_below (by (with_reducible repeat (first | apply Kd.R_alloc | apply Kd.R_drewN | apply Kd.R_drew)); exact HO335.out) hb); have n1_ := Aside0.mk (blk_below (g := gb329) (o := .cells #[.int .i64 a0_0, .slice A0_1 l0_1.length c0_1] 43 (0, 0)) (by (with_reducible repeat (first | refine blk_drewN ?_ _ | refine blk_drew ?_ | refine blk_alloc ?_ _)); exact BK329.out) hb); have n2_ := Aside0.mk (blk_below (g := gb330) (o := .cells #[.int .i64 a1_0, .string a1_1] 64 (0, 0)) (by (with_reducible repeat (first | refine blk_drewN ?_ _ | refine blk_drew ?_ | refine blk_alloc ?_ _)); exact BK330.out) hb); have n3_ := Aside0.mk (blk_below (g := gb331) (o := .cells #[.int .i64 0, .slice none 0 0] 43 (0, 0)) (by (with_reducible repeat (first | refine blk_drewN ?_ _ | refine blk_drew ?_ | refine blk_alloc ?_ _)); exact BK331.out) hb); have n4_ := Aside0.mk (below_step (by repeat (first | (with_reducible first | exact HB.out | apply below_alloc | apply pw_below_drewN | apply below_drew1 | refine below_set ?_ GE329.out | refine below_set ?_ GE330.out | refine below_set ?_ GE331.out) | exact HB.out)) hb); have n5_ := Aside0.mk (hbox); have n6_ := Aside0.mk ((by rw [hg]; exact (below_size (by repeat (first | (with_reducible first | exact HB.out | apply below_alloc | apply pw_below_drewN | apply below_drew1 | refine below_set ?_ GE329.out | refine below_set ?_ GE330.out | refine below_set ?_ GE331.out) | exact HB.out))) : w.heap.size ≤ gb337)); have n7_ := Aside0.mk ((by rw [hg]; exact (below_size (by repeat (first | (with_reducible first | exact HB.out | apply below_alloc | apply pw_below_drewN | apply below_drew1 | refine below_set ?_ GE329.out | refine below_set ?_ GE330.out | refine below_set ?_ GE331.out) | exact HB.out))) : w.heap.size ≤ gb337)); have n8_ := Aside0.mk ((by rw [hg]; exact Nat.ne_of_lt (blk_lt (g := gb329) (o := .cells #[.int .i64 a0_0, .slice A0_1 l0_1.length c0_1] 43 (0, 0)) (by (with_reducible repeat (first | refine blk_drewN ?_ _ | refine blk_drew ?_ | refine blk_alloc ?_ _)); exact BK329.out)) : gb329 ≠ gb337)); have n9_ := Aside0.mk ((by rw [hg]; exact Nat.ne_of_gt (blk_lt (g := gb329) (o := .cells #[.int .i64 a0_0, .slice A0_1 l0_1.length c0_1] 43 (0, 0)) (by (with_reducible repeat (first | refine blk_drewN ?_ _ | refine blk_drew ?_ | refine blk_alloc ?_ _)); exact BK329.out)) : gb337 ≠ gb329)); have n10_ := Aside0.mk ((by rw [hg]; exact Nat.ne_of_lt (blk_lt (g := gb330) (o := .cells #[.int .i64 a1_0, .string a1_1] 64 (0, 0)) (by (with_reducible repeat (first | refine blk_drewN ?_ _ | refine blk_drew ?_ | refine blk_alloc ?_ _)); exact BK330.out)) : gb330 ≠ gb337)); have n11_ := Aside0.mk ((by rw [hg]; exact Nat.ne_of_gt (blk_lt (g := gb330) (o := .cells #[.int .i64 a1_0, .string a1_1] 64 (0, 0)) (by (with_reducible repeat (first | refine blk_drewN ?_ _ | refine blk_drew ?_ | refine blk_alloc ?_ _)); exact BK330.out)) : gb337 ≠ gb330)); have n12_ := Aside0.mk ((by rw [hg]; exact Nat.ne_of_lt (blk_lt (g := gb331) (o := .cells #[.int .i64 0, .slice none 0 0] 43 (0, 0)) (by (with_reducible repeat (first | refine blk_drewN ?_ _ | refine blk_drew ?_ | refine blk_alloc ?_ _)); exact BK331.out)) : gb331 ≠ gb337)); have n13_ := Aside0.mk ((by rw [hg]; exact Nat.ne_of_gt (blk_lt (g := gb331) (o := .cells #[.int .i64 0, .slice none 0 0] 43 (0, 0)) (by (with_reducible repeat (first | refine blk_drewN ?_ _ | refine blk_drew ?_ | refine blk_alloc ?_ _)); exact BK331.out)) : gb337 ≠ gb331)); clear HO335; clear BK329; clear BK330; clear BK331; clear HB; have HO335 := n0_; have BK329 := n1_; have BK330 := n2_; have BK331 := n3_; have HB := n4_; have BK337 := n5_; have GW337 := n6_; have GE337 := n7_; have NB329_337 := n8_; have NB337_329 := n9_; have NB330_337 := n10_; have NB337_330 := n11_; have NB331_337 := n12_; have NB337_331 := n13_; clear n0_ n1_ n2_ n3_ n4_ n5_ n6_ n7_ n8_ n9_ n10_ n11_ n12_ n13_; clear hb hbox hg; have hnb14 := NB337_329.out; have hnc14 := NB329_337.out; have hnb15 := NB337_330.out; have hnc15 := NB330_337.out; have hnb16 := NB337_331.out; have hnc16 := NB331_337.out; have hcz17_0 : w13.cell? ⟨gb337, 0, none⟩ = some (.int .i64 0) := (blk_cell BK337.out 0).trans rfl; have hcz17_1 : w13.cell? ⟨gb337, 1, none⟩ = some (.slice none 0 0) := (blk_cell BK337.out 1).trans rfl; have hfz17_0 := blk_frozen BK337.out 0; have hfz17_1 := blk_frozen BK337.out 1; obtain ⟨Ao18, co18, eo18⟩ := Kd.R_slice HO335.out; subst eo18; have hcz19_0 : w13.cell? ⟨gb329, 0, none⟩ = some (.int .i64 a0_0) := (blk_cell BK329.out 0).trans rfl; have hcz19_1 : w13.cell? ⟨gb329, 1, none⟩ = some (.slice A0_1 l0_1.length c0_1) := (blk_cell BK329.out 1).trans rfl; have hfz19_0 := blk_frozen BK329.out 0; have hfz19_1 := blk_frozen BK329.out 1) | ((with_reducible refine gate_dst (N := 7) rfl ?_); refine box_event ?hg (N := 7) ?hd (cs := #[.int .i64 0, .slice none 0 0]) (t := 43) ?hr ?_; (case hd => rfl); (case hg => rfl); (case hr => first | (go_simp; done) | (go_simp; rfl)); intro gb338 hg w20 hbox hb; have n0_ := Aside0.mk (Kd.R_below (by (with_reducible repeat (first | apply Kd.R_alloc | apply Kd.R_drewN | apply Kd.R_drew)); exact (Kd.R_mono (Kd.R_far (p := ⟨gb337, 1, none⟩) (Kd.R_far (p := ⟨gb337, 0, none⟩) (Kd.R_types HO335.out BK337.out (by decide)) (fun _ hk => hk.2) (.int .i64 t332)) (fun _ hk => hk.2) (.slice Ao18 t333.length co18)) (fun _ h_ => h_.1))) hb); have n1_ := Aside0.mk (blk_below (g := gb329) (o := .cells #[.int .i64 a0_0, .slice A0_1 l0_1.length c0_1] 43 (0, 0)) (by (with_reducible repeat (first | refine blk_drewN ?_ _ | refine blk_drew ?_ | refine blk_alloc ?_ _)); refine blk_far ?_ NB329_337.out _; (with_reducible repeat (first | refine blk_drewN ?_ _ | refine blk_drew ?_ | refine blk_alloc ?_ _)); refine blk_far ?_ NB329_337.out _; (with_reducible repeat (first | refine blk_drewN ?_ _ | refine blk_drew ?_ | refine blk_alloc ?_ _)); exact BK329.out) hb); have n2_ := Aside0.mk (blk_below (g := gb330) (o := .cells #[.int .i64 a1_0, .string a1_1] 64 (0, 0)) (by (with_reducible repeat (first | refine blk_drewN ?_ _ | refine blk_drew ?_ | refine blk_alloc ?_ _)); refine blk_far ?_ NB330_337.out _; (with_reducible repeat (first | refine blk_drewN ?_ _ | refine blk_drew ?_ | refine blk_alloc ?_ _)); refine blk_far ?_ NB330_337.out _; (with_reducible repeat (first | refine blk_drewN ?_ _ | refine blk_drew ?_ | refine blk_alloc ?_ _)); exact BK330.out) hb); have n3_ := Aside0.mk (blk_below (g := gb331) (o := .cells #[.int .i64 0, .slice none 0 0] 43 (0, 0)) (by (with_reducible repeat (first | refine blk_drewN ?_ _ | refine blk_drew ?_ | refine blk_alloc ?_ _)); refine blk_far ?_ NB331_337.out _; (with_reducible repeat (first | refine blk_drewN ?_ _ | refine blk_drew ?_ | refine blk_alloc ?_ _)); refine blk_far ?_ NB331_337.out _; (with_reducible repeat (first | refine blk_drewN ?_ _ | refine blk_drew ?_ | refine blk_alloc ?_ _)); exact BK331.out) hb); have n4_ := Aside0.mk (blk_below (g := gb337) (o := .cells #[.int .i64 t332, .slice Ao18 t333.length co18] 43 (0, 0)) (by (with_reducible repeat (first | refine blk_drewN ?_ _ | refine blk_drew ?_ | refine blk_alloc ?_ _)); refine blk_put (cs := #[.int .i64 t332, .slice none 0 0]) ?_ 1 _ rfl; (with_reducible repeat (first | refine blk_drewN ?_ _ | refine blk_drew ?_ | refine blk_alloc ?_ _)); refine blk_put (cs := #[.int .i64 0, .slice none 0 0]) ?_ 0 _ rfl; (with_reducible repeat (first | refine blk_drewN ?_ _ | refine blk_drew ?_ | refine blk_alloc ?_ _)); exact BK337.out) hb); have n5_ := Aside0.mk (below_step (by repeat (first | (with_reducible first | exact HB.out | apply below_alloc | apply pw_below_drewN | apply below_drew1 | refine below_set ?_ GE329.out | refine below_set ?_ GE330.out | refine below_set ?_ GE331.out | refine below_set ?_ GE337.out) | exact HB.out)) hb); have n6_ := Aside0.mk (hbox); have n7_ := Aside0.mk ((by rw [hg]; exact (below_size (by repeat (first | (with_reducible first | exact HB.out | apply below_alloc | apply pw_below_drewN | apply below_drew1 | refine below_set ?_ GE329.out | refine below_set ?_ GE330.out | refine below_set ?_ GE331.out | refine below_set ?_ GE337.out) | exact HB.out))) : w.heap.size ≤ gb338)); have n8_ := Aside0.mk ((by rw [hg]; exact (below_size (by repeat (first | (with_reducible first | exact HB.out | apply below_alloc | apply pw_below_drewN | apply below_drew1 | refine below_set ?_ GE329.out | refine below_set ?_ GE330.out | refine below_set ?_ GE331.out | refine below_set ?_ GE337.out) | exact HB.out))) : w.heap.size ≤ gb338)); have n9_ := Aside0.mk ((by rw [hg]; exact Nat.ne_of_lt (blk_lt (g := gb329) (o := .cells #[.int .i64 a0_0, .slice A0_1 l0_1.length c0_1] 43 (0, 0)) (by (with_reducible repeat (first | refine blk_drewN ?_ _ | refine blk_drew ?_ | refine blk_alloc ?_ _)); refine blk_far ?_ NB329_337.out _; (with_reducible repeat (first | refine blk_drewN ?_ _ | refine blk_drew ?_ | refine blk_alloc ?_ _)); refine blk_far ?_ NB329_337.out _; (with_reducible repeat (first | refine blk_drewN ?_ _ | refine blk_drew ?_ | refine blk_alloc ?_ _)); exact BK329.out)) : gb329 ≠ gb338)); have n10_ := Aside0.mk ((by rw [hg]; exact Nat.ne_of_gt (blk_lt (g := gb329) (o := .cells #[.int .i64 a0_0, .slice A0_1 l0_1.length c0_1] 43 (0, 0)) (by (with_reducible repeat (first | refine blk_drewN ?_ _ | refine blk_drew ?_ | refine blk_alloc ?_ _)); refine blk_far ?_ NB329_337.out _; (with_reducible repeat (first | refine blk_drewN ?_ _ | refine blk_drew ?_ | refine blk_alloc ?_ _)); refine blk_far ?_ NB329_337.out _; (with_reducible repeat (first | refine blk_drewN ?_ _ | refine blk_drew ?_ | refine blk_alloc ?_ _)); exact BK329.out)) : gb338 ≠ gb329)); have n11_ := Aside0.mk ((by rw [hg]; exact Nat.ne_of_lt (blk_lt (g := gb330) (o := .cells #[.int .i64 a1_0, .string a1_1] 64 (0, 0)) (by (with_reducible repeat (first | refine blk_drewN ?_ _ | refine blk_drew ?_ | refine blk_alloc ?_ _)); refine blk_far ?_ NB330_337.out _; (with_reducible repeat (first | refine blk_drewN ?_ _ | refine blk_drew ?_ | refine blk_alloc ?_ _)); refine blk_far ?_ NB330_337.out _; (with_reducible repeat (first | refine blk_drewN ?_ _ | refine blk_drew ?_ | refine blk_alloc ?_ _)); exact BK330.out)) : gb330 ≠ gb338)); have n12_ := Aside0.mk ((by rw [hg]; exact Nat.ne_of_gt (blk_lt (g := gb330) (o := .cells #[.int .i64 a1_0, .string a1_1] 64 (0, 0)) (by (with_reducible repeat (first | refine blk_drewN ?_ _ | refine blk_drew ?_ | refine blk_alloc ?_ _)); refine blk_far ?_ NB330_337.out _; (with_reducible repeat (first | refine blk_drewN ?_ _ | refine blk_drew ?_ | refine blk_alloc ?_ _)); refine blk_far ?_ NB330_337.out _; (with_reducible repeat (first | refine blk_drewN ?_ _ | refine blk_drew ?_ | refine blk_alloc ?_ _)); exact BK330.out)) : gb338 ≠ gb330)); have n13_ := Aside0.mk ((by rw [hg]; exact Nat.ne_of_lt (blk_lt (g := gb331) (o := .cells #[.int .i64 0, .slice none 0 0] 43 (0, 0)) (by (with_reducible repeat (first | refine blk_drewN ?_ _ | refine blk_drew ?_ | refine blk_alloc ?_ _)); refine blk_far ?_ NB331_337.out _; (with_reducible repeat (first | refine blk_drewN ?_ _ | refine blk_drew ?_ | refine blk_alloc ?_ _)); refine blk_far ?_ NB331_337.out _; (with_reducible repeat (first | refine blk_drewN ?_ _ | refine blk_drew ?_ | refine blk_alloc ?_ _)); exact BK331.out)) : gb331 ≠ gb338)); have n14_ := Aside0.mk ((by rw [hg]; exact Nat.ne_of_gt (blk_lt (g := gb331) (o := .cells #[.int .i64 0, .slice none 0 0] 43 (0, 0)) (by (with_reducible repeat (first | refine blk_drewN ?_ _ | refine blk_drew ?_ | refine blk_alloc ?_ _)); refine blk_far ?_ NB331_337.out _; (with_reducible repeat (first | refine blk_drewN ?_ _ | refine blk_drew ?_ | refine blk_alloc ?_ _)); refine blk_far ?_ NB331_337.out _; (with_reducible repeat (first | refine blk_drewN ?_ _ | refine blk_drew ?_ | refine blk_alloc ?_ _)); exact BK331.out)) : gb338 ≠ gb331)); have n15_ := Aside0.mk ((by rw [hg]; exact Nat.ne_of_lt (blk_lt (g := gb337) (o := .cells #[.int .i64 t332, .slice Ao18 t333.length co18] 43 (0, 0)) (by (with_reducible repeat (first | refine blk_drewN ?_ _ | refine blk_drew ?_ | refine blk_alloc ?_ _)); refine blk_put (cs := #[.int .i64 t332, .slice none 0 0]) ?_ 1 _ rfl; (with_reducible repeat (first | refine blk_drewN ?_ _ | refine blk_drew ?_ | refine blk_alloc ?_ _)); refine blk_put (cs := #[.int .i64 0, .slice none 0 0]) ?_ 0 _ rfl; (with_reducible repeat (first | refine blk_drewN ?_ _ | refine blk_drew ?_ | refine blk_alloc ?_ _)); exact BK337.out)) : gb337 ≠ gb338)); have n16_ := Aside0.mk ((by rw [hg]; exact Nat.ne_of_gt (blk_lt (g := gb337) (o := .cells #[.int .i64 t332, .slice Ao18 t333.length co18] 43 (0, 0)) (by (with_reducible repeat (first | refine blk_drewN ?_ _ | refine blk_drew ?_ | refine blk_alloc ?_ _)); refine blk_put (cs := #[.int .i64 t332, .slice none 0 0]) ?_ 1 _ rfl; (with_reducible repeat (first | refine blk_drewN ?_ _ | refine blk_drew ?_ | refine blk_alloc ?_ _)); refine blk_put (cs := #[.int .i64 0, .slice none 0 0]) ?_ 0 _ rfl; (with_reducible repeat (first | refine blk_drewN ?_ _ | refine blk_drew ?_ | refine blk_alloc ?_ _)); exact BK337.out)) : gb338 ≠ gb337)); clear HO335; clear BK329; clear BK330; clear BK331; clear BK337; clear HB; have HO335 := n0_; have BK329 := n1_; have BK330 := n2_; have BK331 := n3_; have BK337 := n4_; have HB := n5_; have BK338 := n6_; have GW338 := n7_; have GE338 := n8_; have NB329_338 := n9_; have NB338_329 := n10_; have NB330_338 := n11_; have NB338_330 := n12_; have NB331_338 := n13_; have NB338_331 := n14_; have NB337_338 := n15_; have NB338_337 := n16_; clear n0_ n1_ n2_ n3_ n4_ n5_ n6_ n7_ n8_ n9_ n10_ n11_ n12_ n13_ n14_ n15_ n16_; clear hb hbox hg; have hnb21 := NB338_329.out; have hnc21 := NB329_338.out; have hnb22 := NB338_330.out; have hnc22 := NB330_338.out; have hnb23 := NB338_331.out; have hnc23 := NB331_338.out; have hnb24 := NB338_337.out; have hnc24 := NB337_338.out; have hcz25_0 : w20.cell? ⟨gb338, 0, none⟩ = some (.int .i64 0) := (blk_cell BK338.out 0).trans rfl; have hcz25_1 : w20.cell? ⟨gb338, 1, none⟩ = some (.slice none 0 0) := (blk_cell BK338.out 1).trans rfl; have hfz25_0 := blk_frozen BK338.out 0; have hfz25_1 := blk_frozen BK338.out 1))
 go_loopg [8, 9] k (fun kq v8 v9 w' => ∃ (x8_1 : Bool) (x9_1 : Int) (x339001_1 : List (S64)) (u339001 : Value), v8 = .bool x8_1 ∧ v9 = .int .i64 x9_1 ∧ Aside0 (rootcellarref9_with.l0 kq x8_1 x9_1 a1_0 a1_1 t332 t333 a0_0 x339001_1 = some (r1, r2)) ∧ Aside0 (kq ≤ k) ∧ Aside0 (Kd.R k64 64 w' w.heap.size (fun k_ => some k_ ≠ (u339001 : Value).ownBlock ∧ k_ ≠ gb330) (.slice Ao18 t333.length co18) t333) ∧ Aside0 (Kd.R k64 64 w' w.heap.size (fun k_ => some k_ ≠ ((.slice Ao18 t333.length co18) : Value).ownBlock ∧ k_ ≠ gb330) u339001 x339001_1) ∧ Aside0 (w'.heap[gb329]? = some (.cells #[.int .i64 a0_0, (.slice A0_1 l0_1.length c0_1)] 43 (0, 0))) ∧ Aside0 (w'.heap[gb330]? = some (.cells #[.int .i64 a1_0, .string a1_1] 64 (0, 0))) ∧ Aside0 (w'.heap[gb331]? = some (.cells #[.int .i64 0, (.slice none 0 0)] 43 (0, 0))) ∧ Aside0 (w'.heap[gb337]? = some (.cells #[.int .i64 t332, (.slice Ao18 t333.length co18)] 43 (0, 0))) ∧ Aside0 (w'.heap[gb338]? = some (.cells #[.int .i64 a0_0, u339001] 43 (0, 0))) ∧ Aside0 (Below w.heap.size w w'))
 case atStart => exact ⟨(false), (0), (([] : List (S64))), (.slice none 0 0), (by first | rfl | (simp; done) | (simp [*]; done)), (by first | rfl | (simp; done) | (simp [*]; done)), H', ⟨Nat.le_refl _⟩, ⟨by (with_reducible repeat (first | apply Kd.R_alloc | apply Kd.R_drewN | apply Kd.R_drew)); exact Kd.R_mono (Kd.R_far (p := ⟨gb338, 1, none⟩) (Kd.R_far (p := ⟨gb338, 0, none⟩) (Kd.R_types HO335.out BK338.out (by decide)) (fun _ hk => hk.2) (.int .i64 a0_0)) (fun _ hk => hk.2) (.slice none 0 0)) (fun _ hk => ⟨(by simp [Value.ownBlock]), hk.1.2⟩)⟩, ⟨by first | exact Kd.R_nil _ _ _ _ _ | exact Kd.N_nil _ _ _ _ _ | exact Kd.V_nil _ _ _ _ _ | exact Kd.Q_nil _ _ _ _ _ | exact Kd.S_nil _ _ _ _ _⟩, ⟨by (with_reducible repeat (first | refine blk_drewN ?_ _ | refine blk_drew ?_ | refine blk_alloc ?_ _)); refine blk_far ?_ NB329_338.out _; (with_reducible repeat (first | refine blk_drewN ?_ _ | refine blk_drew ?_ | refine blk_alloc ?_ _)); refine blk_far ?_ NB329_338.out _; (with_reducible repeat (first | refine blk_drewN ?_ _ | refine blk_drew ?_ | refine blk_alloc ?_ _)); exact BK329.out⟩, ⟨by (with_reducible repeat (first | refine blk_drewN ?_ _ | refine blk_drew ?_ | refine blk_alloc ?_ _)); refine blk_far ?_ NB330_338.out _; (with_reducible repeat (first | refine blk_drewN ?_ _ | refine blk_drew ?_ | refine blk_alloc ?_ _)); refine blk_far ?_ NB330_338.out _; (with_reducible repeat (first | refine blk_drewN ?_ _ | refine blk_drew ?_ | refine blk_alloc ?_ _)); exact BK330.out⟩, ⟨by (with_reducible repeat (first | refine blk_drewN ?_ _ | refine blk_drew ?_ | refine blk_alloc ?_ _)); refine blk_far ?_ NB331_338.out _; (with_reducible repeat (first | refine blk_drewN ?_ _ | refine blk_drew ?_ | refine blk_alloc ?_ _)); refine blk_far ?_ NB331_338.out _; (with_reducible repeat (first | refine blk_drewN ?_ _ | refine blk_drew ?_ | refine blk_alloc ?_ _)); exact BK331.out⟩, ⟨by (with_reducible repeat (first | refine blk_drewN ?_ _ | refine blk_drew ?_ | refine blk_alloc ?_ _)); refine blk_far ?_ NB337_338.out _; (with_reducible repeat (first | refine blk_drewN ?_ _ | refine blk_drew ?_ | refine blk_alloc ?_ _)); refine blk_far ?_ NB337_338.out _; (with_reducible repeat (first | refine blk_drewN ?_ _ | refine blk_drew ?_ | refine blk_alloc ?_ _)); exact BK337.out⟩, ⟨by (with_reducible repeat (first | refine blk_drewN ?_ _ | refine blk_drew ?_ | refine blk_alloc ?_ _)); refine blk_put (cs := #[.int .i64 a0_0, .slice none 0 0]) ?_ 1 _ rfl; (with_reducible repeat (first | refine blk_drewN ?_ _ | refine blk_drew ?_ | refine blk_alloc ?_ _)); refine blk_put (cs := #[.int .i64 0, .slice none 0 0]) ?_ 0 _ rfl; (with_reducible repeat (first | refine blk_drewN ?_ _ | refine blk_drew ?_ | refine blk_alloc ?_ _)); exact BK338.out⟩, ⟨by repeat (first | (with_reducible first | exact HB.out | apply below_alloc | apply pw_below_drewN | apply below_drew1 | refine below_set ?_ GE329.out | refine below_set ?_ GE330.out | refine below_set ?_ GE331.out | refine below_set ?_ GE337.out | refine below_set ?_ GE338.out) | exact HB.out)⟩⟩
 case round =>
  clear H'
  try clear c1
  try clear c2
  try clear p2
  try clear c3
  try clear c4
  try clear c7
  try clear c8
  try clear c10
  try clear c14
  try clear c15
  try clear c16
  try clear c21
  try clear c22
  try clear c23
  try clear c24
  try clear hcz11_0
  try clear hcz11_1
  try clear hcz17_0
  try clear hcz17_1
  try clear hcz19_0
  try clear hcz19_1
  try clear hcz25_0
  try clear hcz25_1
  try clear hcz9_0
  try clear hcz9_1
  try clear hfz11_0
  try clear hfz11_1
  try clear hfz17_0
  try clear hfz17_1
  try clear hfz19_0
  try clear hfz19_1
  try clear hfz25_0
  try clear hfz25_1
  try clear hfz9_0
  try clear hfz9_1
  obtain ⟨x8_1, x9_1, x339001_1, u339001, rfl, rfl, HA, HK1, HO_338001, HO_339001, BK329, BK330, BK331, BK337, BK338, HB⟩ := hrel
  cases gk with
  | zero => exact absurd HA.out (by simp [rootcellarref9_with.l0])
  | succ k1 =>
   have H := HA.out
   clear HA
   simp only [rootcellarref9_with.l0] at H
   by_cases c26 : x9_1 < (t333.length : Int)
   ·rw [if_pos c26] at H
    have c26b0 : decide (x9_1 < (t333.length : Int)) = true := decide_eq_true c26
    clear c26
    by_cases c27 : x8_1 = true
    ·subst c27
     have H1 : (if 0 ≤ x9_1 then (if x339001_1.length < 5864062014805 then (rootcellarref9_with.l0 k1 true (wrap64 (x9_1 + 1)) a1_0 a1_1 t332 t333 a0_0 (x339001_1 ++ [(⟨(rd_T64 t333 x9_1).f0, (rd_T64 t333 x9_1).f1⟩ : S64)])) else (none)) else (none)) = some (r1, r2) := by rw [if_pos rfl] at H; exact H
     clear H
     have H := H1
     clear H1
     by_cases c28 : 0 ≤ x9_1
     ·rw [if_pos c28] at H
      have c28b0 : decide (0 ≤ x9_1) = true := decide_eq_true c28
      clear c28
      by_cases c29 : x339001_1.length < 5864062014805
      ·rw [if_pos c29] at H
       have LMc29 := Aside0.mk c29
       clear c29
       obtain ⟨y340, hy340⟩ : ∃ y_ : List (S64), y_ = (x339001_1 ++ [(⟨(rd_T64 t333 x9_1).f0, (rd_T64 t333 x9_1).f1⟩ : S64)]) := ⟨_, rfl⟩
       replace H : (rootcellarref9_with.l0 k1 true (wrap64 (x9_1 + 1)) a1_0 a1_1 t332 t333 a0_0 y340) = some (r1, r2) := by first | (rw [hy340]; with_reducible exact H) | (have H2_ := (Option.bind_some _ _).symm.trans H; rw [hy340]; with_reducible exact H2_) | (have H2_ := (Option.bind_some _ _).symm.trans H; with_reducible exact H2_) | with_reducible exact H | (rw [hy340]; exact H) | exact H
       have Ny340 := Aside0.mk hy340
       clear hy340
       have H' := Aside0.mk H
       clear H
       have hnb30 := NB337_329.out
       have hnc30 := NB329_337.out
       have hnb31 := NB337_330.out
       have hnc31 := NB330_337.out
       have hnb32 := NB337_331.out
       have hnc32 := NB331_337.out
       have hnb33 := NB337_338.out
       have hnc33 := NB338_337.out
       have hcz34_0 : wr.cell? ⟨gb337, 0, none⟩ = some (.int .i64 t332) := (blk_cell BK337.out 0).trans rfl
       have hcz34_1 : wr.cell? ⟨gb337, 1, none⟩ = some (.slice Ao18 t333.length co18) := (blk_cell BK337.out 1).trans rfl
       have hfz34_0 := blk_frozen BK337.out 0
       have hfz34_1 := blk_frozen BK337.out 1
       try go_wp2
       have n0_ := Aside0.mk (Kd.R_drew HO_338001.out)
       have n1_ := Aside0.mk (Kd.R_drew HO_339001.out)
       have n2_ := Aside0.mk (blk_drew BK329.out)
       have n3_ := Aside0.mk (blk_drew BK330.out)
       have n4_ := Aside0.mk (blk_drew BK331.out)
       have n5_ := Aside0.mk (blk_drew BK337.out)
       have n6_ := Aside0.mk (blk_drew BK338.out)
       have n7_ := Aside0.mk (below_drew1 HB.out)
       clear HO_338001
       clear HO_339001
       clear BK329
       clear BK330
       clear BK331
       clear BK337
       clear BK338
       clear HB
       have HO_338001 := n0_
       have HO_339001 := n1_
       have BK329 := n2_
       have BK330 := n3_
       have BK331 := n4_
       have BK337 := n5_
       have BK338 := n6_
       have HB := n7_
       clear n0_ n1_ n2_ n3_ n4_ n5_ n6_ n7_
       refine start_ (n := 13) (S := fun w' => True) (ds := []) #[false, false, false, false, false, false, false, false, false, false, false, false, false] (by kernel_rfl) rfl rfl trivial (fun hHeld => ?_); refine with_tabW rootcellarref9_with.tab7 rootcellarref9_with.bits7 (fun HT_ HW_ => ?_)
       generalize wr.drew = w35 at HO_338001 HO_339001 BK329 BK330 BK331 BK337 BK338 HB hHeld ⊢
       refine pure_ (i := 0) (N := some 27) (v := ?_) (a' := ?_) #[true, false, false, false, false, false, false, false, false, false, false, false, false] rfl rfl (any_of HT_.out (by kernel_rfl)) (fun _ _ _ h => h) (Or.inl ⟨by rfl, ?_⟩) ?_ ?_
       rotate_left
       ·intro w'
        go_simp
        with_reducible rfl
       rotate_left
       ·simp only [Act.put, List.setIfInBounds_toArray, List.set_cons_zero, List.set_cons_succ, i64_w, i32_w]
        rfl
       refine pure_ (i := 1) (N := some 28) (v := ?_) (a' := ?_) #[true, true, false, false, false, false, false, false, false, false, false, false, false] rfl rfl (any_of HT_.out (by kernel_rfl)) (fun _ _ _ h => h) (Or.inl ⟨by rfl, ?_⟩) ?_ ?_
       rotate_left
       ·intro w'
        go_simp
        with_reducible rfl
       rotate_left
       ·simp only [Act.put, List.setIfInBounds_toArray, List.set_cons_zero, List.set_cons_succ, i64_w, i32_w]
        rfl
       refine pure_ (i := 2) (N := some 29) (v := ?_) (a' := ?_) #[true, true, true, false, false, false, false, false, false, false, false, false, false] rfl rfl (any_of HT_.out (by kernel_rfl)) (fun _ _ _ h => h) (Or.inl ⟨by rfl, ?_⟩) ?_ ?_
       rotate_left
       ·intro w'
        go_simp
        with_reducible rfl
       rotate_left
       ·simp only [Act.put, List.setIfInBounds_toArray, List.set_cons_zero, List.set_cons_succ, i64_w, i32_w]
        rfl
       refine pure_ (i := 3) (N := some 30) (v := undef) (a' := ?_) #[true, true, true, true, false, false, false, false, false, false, false, false, false] rfl rfl (any_of HT_.out (by kernel_rfl)) (fun _ _ _ h => h) (Or.inr ⟨by rfl, rfl⟩) ?_ ?_
       rotate_left
       ·simp only [Act.put, List.setIfInBounds_toArray, List.set_cons_zero, List.set_cons_succ, i64_w, i32_w]
        rfl
       refine pure_ (i := 4) (N := some 31) (v := undef) (a' := ?_) #[true, true, true, true, true, false, false, false, false, false, false, false, false] rfl rfl (any_of HT_.out (by kernel_rfl)) (fun _ _ _ h => h) (Or.inr ⟨by rfl, rfl⟩) ?_ ?_
       rotate_left
       ·simp only [Act.put, List.setIfInBounds_toArray, List.set_cons_zero, List.set_cons_succ, i64_w, i32_w]
        rfl
       refine pure_ (i := 5) (N := some 32) (v := undef) (a' := ?_) #[true, true, true, true, true, true, false, false, false, false, false, false, false] rfl rfl (any_of HT_.out (by kernel_rfl)) (fun _ _ _ h => h) (Or.inr ⟨by rfl, rfl⟩) ?_ ?_
       rotate_left
       ·simp only [Act.put, List.setIfInBounds_toArray, List.set_cons_zero, List.set_cons_succ, i64_w, i32_w]
        rfl
       refine pure_ (i := 6) (N := some 33) (v := undef) (a' := ?_) #[true, true, true, true, true, true, true, false, false, false, false, false, false] rfl rfl (any_of HT_.out (by kernel_rfl)) (fun _ _ _ h => h) (Or.inr ⟨by rfl, rfl⟩) ?_ ?_
       rotate_left
       ·simp only [Act.put, List.setIfInBounds_toArray, List.set_cons_zero, List.set_cons_succ, i64_w, i32_w]
        rfl
       refine pure_ (i := 7) (N := some 34) (v := undef) (a' := ?_) #[true, true, true, true, true, true, true, true, false, false, false, false, false] rfl rfl (any_of HT_.out (by kernel_rfl)) (fun _ _ _ h => h) (Or.inr ⟨by rfl, rfl⟩) ?_ ?_
       rotate_left
       ·simp only [Act.put, List.setIfInBounds_toArray, List.set_cons_zero, List.set_cons_succ, i64_w, i32_w]
        rfl
       refine pure_ (i := 8) (N := some 35) (v := undef) (a' := ?_) #[true, true, true, true, true, true, true, true, true, false, false, false, false] rfl rfl (any_of HT_.out (by kernel_rfl)) (fun _ _ _ h => h) (Or.inr ⟨by rfl, rfl⟩) ?_ ?_
       rotate_left
       ·simp only [Act.put, List.setIfInBounds_toArray, List.set_cons_zero, List.set_cons_succ, i64_w, i32_w]
        rfl
       refine pure_ (i := 9) (N := some 36) (v := undef) (a' := ?_) #[true, true, true, true, true, true, true, true, true, true, false, false, false] rfl rfl (any_of HT_.out (by kernel_rfl)) (fun _ _ _ h => h) (Or.inr ⟨by rfl, rfl⟩) ?_ ?_
       rotate_left
       ·simp only [Act.put, List.setIfInBounds_toArray, List.set_cons_zero, List.set_cons_succ, i64_w, i32_w]
        rfl
       refine pure_ (i := 10) (N := some 37) (v := undef) (a' := ?_) #[true, true, true, true, true, true, true, true, true, true, true, false, false] rfl rfl (any_of HT_.out (by kernel_rfl)) (fun _ _ _ h => h) (Or.inr ⟨by rfl, rfl⟩) ?_ ?_
       rotate_left
       ·simp only [Act.put, List.setIfInBounds_toArray, List.set_cons_zero, List.set_cons_succ, i64_w, i32_w]
        rfl
       refine pure_ (i := 11) (N := some 38) (v := undef) (a' := ?_) #[true, true, true, true, true, true, true, true, true, true, true, true, false] rfl rfl (any_of HT_.out (by kernel_rfl)) (fun _ _ _ h => h) (Or.inr ⟨by rfl, rfl⟩) ?_ ?_
       rotate_left
       ·simp only [Act.put, List.setIfInBounds_toArray, List.set_cons_zero, List.set_cons_succ, i64_w, i32_w]
        rfl
       refine pure_ (i := 12) (N := some 39) (v := ?_) (a' := ?_) #[true, true, true, true, true, true, true, true, true, true, true, true, true] rfl rfl (any_of HT_.out (by kernel_rfl)) (fun _ _ _ h => h) (Or.inl ⟨by rfl, ?_⟩) ?_ ?_
       rotate_left
       ·intro w'
        go_simp
        with_reducible rfl
       rotate_left
       ·simp only [Act.put, List.setIfInBounds_toArray, List.set_cons_zero, List.set_cons_succ, i64_w, i32_w]
        rfl
       refine done_ (done_of HT_.out (by kernel_rfl)) ?_
       try go_wp2
       have n0_ := Aside0.mk (Kd.R_drew HO_338001.out)
       have n1_ := Aside0.mk (Kd.R_drew HO_339001.out)
       have n2_ := Aside0.mk (blk_drew BK329.out)
       have n3_ := Aside0.mk (blk_drew BK330.out)
       have n4_ := Aside0.mk (blk_drew BK331.out)
       have n5_ := Aside0.mk (blk_drew BK337.out)
       have n6_ := Aside0.mk (blk_drew BK338.out)
       have n7_ := Aside0.mk (below_drew1 HB.out)
       clear HO_338001
       clear HO_339001
       clear BK329
       clear BK330
       clear BK331
       clear BK337
       clear BK338
       clear HB
       have HO_338001 := n0_
       have HO_339001 := n1_
       have BK329 := n2_
       have BK330 := n3_
       have BK331 := n4_
       have BK337 := n5_
       have BK338 := n6_
       have HB := n7_
       clear n0_ n1_ n2_ n3_ n4_ n5_ n6_ n7_
       have p339 : 0 ≤ (x9_1 : Int) := of_decide_eq_true (by first | (with_reducible assumption) | assumption)
       have q339 : x9_1 < (t333.length : Int) := of_decide_eq_true (by first | (with_reducible assumption) | assumption)
       obtain ⟨ad339, e339, hx339_0, hx339_1⟩ := at_T64 (Kd.R_reads' HO_338001.out).2.2 x9_1 p339 q339
       cases e339
       replace p339 := eq_true p339
       replace q339 := eq_true q339
       refine start_ (n := 11) (S := fun w' => w'.cell? ⟨gb338, 0, none⟩ = some (.int .i64 a0_0) ∧ w'.cell? ⟨gb338, 1, none⟩ = some (u339001) ∧ w'.cell? ⟨gb337, 0, none⟩ = some (.int .i64 t332) ∧ w'.cell? ⟨gb337, 1, none⟩ = some (.slice (some ad339) t333.length co18) ∧ w'.cell? (ad339.add ((x9_1).toNat * 2)) = some (.int .i64 ((rd_T64 t333 x9_1).f0)) ∧ w'.cell? ⟨(ad339.add ((x9_1).toNat * 2)).block, (ad339.add ((x9_1).toNat * 2)).off + 1, none⟩ = some (.string ((rd_T64 t333 x9_1).f1))) (ds := [8, 10]) #[false, false, false, false, false, false, false, false, false, false, false] (by kernel_rfl) rfl rfl ⟨(blk_cell BK338.out 0).trans rfl, (blk_cell BK338.out 1).trans rfl, (blk_cell BK337.out 0).trans rfl, (blk_cell BK337.out 1).trans rfl, hx339_0, hx339_1⟩ (fun hHeld => ?_); refine with_tabW rootcellarref9_with.tab10 rootcellarref9_with.bits10 (fun HT_ HW_ => ?_)
       generalize w35.drew = w36 at HO_338001 HO_339001 BK329 BK330 BK331 BK337 BK338 HB hx339_0 hx339_1 hHeld ⊢
       refine pure_ (i := 0) (N := some 46) (v := ?_) (a' := ?_) #[true, false, false, false, false, false, false, false, false, false, false] rfl rfl (any_of HT_.out (by kernel_rfl)) (fun _ _ _ h => h) (Or.inl ⟨by rfl, ?_⟩) ?_ ?_
       rotate_left
       ·intro w'
        go_simp
        with_reducible rfl
       rotate_left
       ·simp only [Act.put, List.setIfInBounds_toArray, List.set_cons_zero, List.set_cons_succ, i64_w, i32_w]
        rfl
       refine pure_ (i := 2) (N := some 48) (v := ?_) (a' := ?_) #[true, false, true, false, false, false, false, false, false, false, false] rfl rfl (any_of HT_.out (by kernel_rfl)) (fun _ _ _ h => h) (Or.inl ⟨by rfl, ?_⟩) ?_ ?_
       rotate_left
       ·intro w'
        go_simp
        with_reducible rfl
       rotate_left
       ·simp only [Act.put, List.setIfInBounds_toArray, List.set_cons_zero, List.set_cons_succ, i64_w, i32_w]
        rfl
       refine pure_ (i := 4) (N := some 50) (v := ?_) (a' := ?_) #[true, false, true, false, true, false, false, false, false, false, false] rfl rfl (any_of HT_.out (by kernel_rfl)) (fun _ _ _ h => h) (Or.inl ⟨by rfl, ?_⟩) ?_ ?_
       rotate_left
       ·intro w'
        go_simp
        with_reducible rfl
       rotate_left
       ·simp only [Act.put, List.setIfInBounds_toArray, List.set_cons_zero, List.set_cons_succ, i64_w, i32_w]
        rfl
       refine take_ (i := 1) (N := some 47) (v := ?_) (a' := ?_) #[true, true, true, false, true, false, false, false, false, false, false] rfl rfl (take_ofW HT_.out HW_.out (by kernel_rfl)) (fun _ _ _ h => h) (Or.inl ⟨by rfl, ?_⟩) hHeld ?_ ?_
       rotate_left
       ·rintro w' ⟨s0, s1, s2, s3, s4, s5⟩
        go_simp
        with_reducible rfl
       rotate_left
       ·simp only [Act.put, List.setIfInBounds_toArray, List.set_cons_zero, List.set_cons_succ, i64_w, i32_w]
        rfl
       refine take_ (i := 3) (N := some 49) (v := ?_) (a' := ?_) #[true, true, true, true, true, false, false, false, false, false, false] rfl rfl (take_ofW HT_.out HW_.out (by kernel_rfl)) (fun _ _ _ h => h) (Or.inl ⟨by rfl, ?_⟩) hHeld ?_ ?_
       rotate_left
       ·rintro w' ⟨s0, s1, s2, s3, s4, s5⟩
        go_simp
        with_reducible rfl
       rotate_left
       ·simp only [Act.put, List.setIfInBounds_toArray, List.set_cons_zero, List.set_cons_succ, i64_w, i32_w]
        rfl
       refine pure_ (i := 5) (N := some 51) (v := ?_) (a' := ?_) #[true, true, true, true, true, true, false, false, false, false, false] rfl rfl (any_of HT_.out (by kernel_rfl)) (fun _ _ _ h => h) (Or.inl ⟨by rfl, ?_⟩) ?_ ?_
       rotate_left
       ·intro w'
        go_simp
        with_reducible rfl
       rotate_left
       ·simp only [Act.put, List.setIfInBounds_toArray, List.set_cons_zero, List.set_cons_succ, i64_w, i32_w]
        rfl
       refine take_ (i := 6) (N := some 52) (v := ?_) (a' := ?_) #[true, true, true, true, true, true, true, false, false, false, false] rfl rfl (take_ofW HT_.out HW_.out (by kernel_rfl)) (fun _ _ _ h => h) (Or.inl ⟨by rfl, ?_⟩) hHeld ?_ ?_
       rotate_left
       ·rintro w' ⟨s0, s1, s2, s3, s4, s5⟩
        go_simp
        with_reducible rfl
       rotate_left
       ·simp only [Act.put, List.setIfInBounds_toArray, List.set_cons_zero, List.set_cons_succ, i64_w, i32_w]
        rfl
       refine one_ (i := 7) (N := some 53) #[true, true, true, true, true, true, true, true, false, false, false] rfl rfl (one_of HT_.out (by kernel_rfl)) (by decide) (fun K hK => ?_)
       refine value_ (w1 := ?_) (v := ?_) (by rfl) rfl ?_ ?_
       rotate_left 2
       ·go_simp
        constructor
        ·rfl
        ·rfl
       refine hK.out _ _ ⟨(blk_cell (blk_alloc BK338.out _) 0).trans rfl, (blk_cell (blk_alloc BK338.out _) 1).trans rfl, (blk_cell (blk_alloc BK337.out _) 0).trans rfl, (blk_cell (blk_alloc BK337.out _) 1).trans rfl, (World.cell?_alloc_lt _ _ _ (World.block_lt_of_cell? _ _ (hHeld.2.2.2.2.1))).trans (hHeld.2.2.2.2.1), (World.cell?_alloc_lt _ _ _ (World.block_lt_of_cell? _ _ (hHeld.2.2.2.2.2))).trans (hHeld.2.2.2.2.2)⟩ (fun hHeld => ?_)
       clear hK K
       refine norm_ (a' := ?_) ?_ ?_
       rotate_left
       ·show Act.put _ (some 53) _ = _
        simp only [Act.put, List.setIfInBounds_toArray, List.set_cons_zero, List.set_cons_succ, i64_w, i32_w]
        rfl
       refine last_ (i := 8) (N := some 54) #[true, true, true, true, true, true, true, true, true, false, false] rfl rfl (one_of HT_.out (by kernel_rfl)) (by decide) (fun K hK => ?_)
       refine Kd.R_append_step k64 (w0 := w) w.heap.size (by rfl) (.tmp 47) (.tmp 53) 41 64 (.agg #[(.int .i64 0), (.string ⟨#[]⟩)]) 24 rfl Try.underlying41 info64 rfl (by decide) (by omega) u339001 x339001_1 (⟨(rd_T64 t333 x9_1).f0, (rd_T64 t333 x9_1).f1⟩ : S64) [.int .i64 ((rd_T64 t333 x9_1).f0), .string ((rd_T64 t333 x9_1).f1)] (fun k_ => some k_ ≠ (.slice (some ad339) t333.length co18 : Value).ownBlock ∧ k_ ≠ gb330) (fun _ => False) rfl rfl ?aP (fun _ hk => hk.elim) ?aF ?aO ?aB ?aS ?aL ?_
       (case aP => exact k64_mkM _ _ _ (⟨(rd_T64 t333 x9_1).f0, (rd_T64 t333 x9_1).f1⟩ : S64))
       (case aB => exact (by repeat (first | (with_reducible first | exact HB.out | apply below_alloc | apply pw_below_drewN | apply below_drew1 | refine below_set ?_ GE329.out | refine below_set ?_ GE330.out | refine below_set ?_ GE331.out | refine below_set ?_ GE337.out | refine below_set ?_ GE338.out) | exact HB.out)))
       (case aF => exact (fun k_ hk => ⟨Kd.fresh' (Kd.R_lt (by (with_reducible repeat (first | apply Kd.R_alloc | apply Kd.R_drewN | apply Kd.R_drew)); exact HO_338001.out)) k_ hk, Kd.freshB (g := gb330) (o := .cells #[.int .i64 a1_0, .string a1_1] 64 (0, 0)) (by (with_reducible repeat (first | refine blk_drewN ?_ _ | refine blk_drew ?_ | refine blk_alloc ?_ _)); exact BK330.out) k_ hk⟩))
       (case aO => exact (by (with_reducible repeat (first | apply Kd.R_alloc | apply Kd.R_drewN | apply Kd.R_drew)); exact HO_339001.out))
       (case aS => exact (below_size (by repeat (first | (with_reducible first | exact HB.out | apply below_alloc | apply pw_below_drewN | apply below_drew1 | refine below_set ?_ GE329.out | refine below_set ?_ GE330.out | refine below_set ?_ GE331.out | refine below_set ?_ GE337.out | refine below_set ?_ GE338.out) | exact HB.out))))
       (case aL => have := LMc29.out; omega)
       intro v341 w37 ho hb hg hat
       rw [← Ny340.out] at ho
       have n0_ := Aside0.mk (Kd.R_after (ok := (fun k_ => k_ ≠ gb330)) (by (with_reducible repeat (first | apply Kd.R_alloc | apply Kd.R_drewN | apply Kd.R_drew)); exact Kd.R_mono HO_338001.out (fun _ hk => ⟨hk.2, hk.1⟩)) hg hat)
       have n1_ := Aside0.mk (blk_grown (g := gb329) (o := .cells #[.int .i64 a0_0, .slice A0_1 l0_1.length c0_1] 43 (0, 0)) (by (with_reducible repeat (first | refine blk_drewN ?_ _ | refine blk_drew ?_ | refine blk_alloc ?_ _)); exact BK329.out) hg (Kd.R_ne HO_339001.out BK329.out (by decide)))
       have n2_ := Aside0.mk (blk_grown (g := gb330) (o := .cells #[.int .i64 a1_0, .string a1_1] 64 (0, 0)) (by (with_reducible repeat (first | refine blk_drewN ?_ _ | refine blk_drew ?_ | refine blk_alloc ?_ _)); exact BK330.out) hg (Kd.R_away HO_339001.out (fun _ hk => hk.2)))
       have n3_ := Aside0.mk (blk_grown (g := gb331) (o := .cells #[.int .i64 0, .slice none 0 0] 43 (0, 0)) (by (with_reducible repeat (first | refine blk_drewN ?_ _ | refine blk_drew ?_ | refine blk_alloc ?_ _)); exact BK331.out) hg (Kd.R_ne HO_339001.out BK331.out (by decide)))
       have n4_ := Aside0.mk (blk_grown (g := gb337) (o := .cells #[.int .i64 t332, .slice (some ad339) t333.length co18] 43 (0, 0)) (by (with_reducible repeat (first | refine blk_drewN ?_ _ | refine blk_drew ?_ | refine blk_alloc ?_ _)); exact BK337.out) hg (Kd.R_ne HO_339001.out BK337.out (by decide)))
       have n5_ := Aside0.mk (blk_grown (g := gb338) (o := .cells #[.int .i64 a0_0, u339001] 43 (0, 0)) (by (with_reducible repeat (first | refine blk_drewN ?_ _ | refine blk_drew ?_ | refine blk_alloc ?_ _)); exact BK338.out) hg (Kd.R_ne HO_339001.out BK338.out (by decide)))
       have n6_ := Aside0.mk (hb)
       have n7_ := Aside0.mk (ho)
       clear HO_338001
       clear BK329
       clear BK330
       clear BK331
       clear BK337
       clear BK338
       clear HB
       clear HO_339001
       have HO_338001 := n0_
       have BK329 := n1_
       have BK330 := n2_
       have BK331 := n3_
       have BK337 := n4_
       have BK338 := n5_
       have HB := n6_
       have HO342 := n7_
       clear n0_ n1_ n2_ n3_ n4_ n5_ n6_ n7_
       clear ho hb hg hat
       obtain ⟨Ao38, co38, eo38⟩ := Kd.R_slice HO342.out
       (first | subst eo38 | (injection eo38 with f1_ f2_ f3_; have f4_ := f1_.symm; have f5_ := f3_.symm; clear f1_ f2_ f3_; subst f4_; subst f5_))
       refine hK.out _ _ ?_
       clear hK K
       refine norm_ (a' := ?_) ?_ ?_
       rotate_left
       ·show Act.put _ (some 54) _ = _
        simp only [Act.put, List.setIfInBounds_toArray, List.set_cons_zero, List.set_cons_succ, i64_w, i32_w]
        rfl
       refine pure_ (i := 9) (N := some 55) (v := ?_) (a' := ?_) #[true, true, true, true, true, true, true, true, true, true, false] rfl rfl (any_of HT_.out (by kernel_rfl)) (fun _ _ _ h => h) (Or.inl ⟨by rfl, ?_⟩) ?_ ?_
       rotate_left
       ·intro w'
        go_simp
        with_reducible rfl
       rotate_left
       ·simp only [Act.put, List.setIfInBounds_toArray, List.set_cons_zero, List.set_cons_succ, i64_w, i32_w]
        rfl
       refine last_ (i := 10) (N := none) #[true, true, true, true, true, true, true, true, true, true, true] rfl rfl (one_of HT_.out (by kernel_rfl)) (by decide) (fun K hK => ?_)
       have hs39 : w37.cell? ⟨gb338, 1, none⟩ = some (u339001) := (blk_cell BK338.out 1).trans rfl
       have hfs39 := blk_frozen BK338.out 1
       have hns39_0 := NB329_338.out
       have hns39_1 := NB330_338.out
       have hns39_2 := NB331_338.out
       have hns39_3 := NB337_338.out
       have hms39_0 := NB338_329.out
       have hms39_1 := NB338_330.out
       have hms39_2 := NB338_331.out
       have hms39_3 := NB338_337.out
       refine skip_ (w1 := ?_) (by rfl) rfl ?_ ?_
       rotate_left
       ·go_simp
        rfl
       refine hK.out _ _ ?_
       clear hK K
       refine done_ (done_of HT_.out (by kernel_rfl)) ?_
       try go_wp2
       go_roundg k1
       case measure => have := HK1.out; omega
       case rel => exact ⟨(true), (wrap64 (x9_1 + 1)), (y340), (.slice Ao38 y340.length co38), (by first | rfl | (simp; done) | (simp [*]; done)), (by first | rfl | (simp; done) | (simp [*]; done)), H', ⟨by have := HK1.out; omega⟩, ⟨by (with_reducible repeat (first | apply Kd.R_alloc | apply Kd.R_drewN | apply Kd.R_drew)); exact Kd.R_mono (Kd.R_far (p := ⟨gb338, 1, none⟩) (Kd.R_types HO_338001.out BK338.out (by decide)) (fun _ hk => hk.2) (.slice Ao38 y340.length co38)) (fun _ hk => ⟨hk.1.2, hk.1.1⟩)⟩, ⟨by (with_reducible repeat (first | apply Kd.R_alloc | apply Kd.R_drewN | apply Kd.R_drew)); exact Kd.R_mono (Kd.R_far (p := ⟨gb338, 1, none⟩) (Kd.R_types HO342.out BK338.out (by decide)) (fun _ hk => hk.2) (.slice Ao38 y340.length co38)) (fun _ hk => ⟨hk.1.1, hk.1.2⟩)⟩, ⟨by (with_reducible repeat (first | refine blk_drewN ?_ _ | refine blk_drew ?_ | refine blk_alloc ?_ _)); refine blk_far ?_ NB329_338.out _; (with_reducible repeat (first | refine blk_drewN ?_ _ | refine blk_drew ?_ | refine blk_alloc ?_ _)); exact BK329.out⟩, ⟨by (with_reducible repeat (first | refine blk_drewN ?_ _ | refine blk_drew ?_ | refine blk_alloc ?_ _)); refine blk_far ?_ NB330_338.out _; (with_reducible repeat (first | refine blk_drewN ?_ _ | refine blk_drew ?_ | refine blk_alloc ?_ _)); exact BK330.out⟩, ⟨by (with_reducible repeat (first | refine blk_drewN ?_ _ | refine blk_drew ?_ | refine blk_alloc ?_ _)); refine blk_far ?_ NB331_338.out _; (with_reducible repeat (first | refine blk_drewN ?_ _ | refine blk_drew ?_ | refine blk_alloc ?_ _)); exact BK331.out⟩, ⟨by (with_reducible repeat (first | refine blk_drewN ?_ _ | refine blk_drew ?_ | refine blk_alloc ?_ _)); refine blk_far ?_ NB337_338.out _; (with_reducible repeat (first | refine blk_drewN ?_ _ | refine blk_drew ?_ | refine blk_alloc ?_ _)); exact BK337.out⟩, ⟨by (with_reducible repeat (first | refine blk_drewN ?_ _ | refine blk_drew ?_ | refine blk_alloc ?_ _)); refine blk_put (cs := #[.int .i64 a0_0, u339001]) ?_ 1 _ rfl; (with_reducible repeat (first | refine blk_drewN ?_ _ | refine blk_drew ?_ | refine blk_alloc ?_ _)); exact BK338.out⟩, ⟨by repeat (first | (with_reducible first | exact HB.out | apply below_alloc | apply pw_below_drewN | apply below_drew1 | refine below_set ?_ GE329.out | refine below_set ?_ GE330.out | refine below_set ?_ GE331.out | refine below_set ?_ GE337.out | refine below_set ?_ GE338.out) | exact HB.out)⟩⟩
      ·rw [if_neg c29] at H
       exact absurd H (by simp)
     ·rw [if_neg c28] at H
      exact absurd H (by simp)
    ·replace c27 := Bool.eq_false_iff.mpr c27
     subst c27
     have H1 : (if 0 ≤ x9_1 then (if a1_0 < ((rd_T64 t333 x9_1).f0) then (if x339001_1.length < 5864062014805 then ((some (x339001_1 ++ [(⟨a1_0, a1_1⟩ : S64)] : List (S64))).bind fun y344 => (if y344.length < 5864062014805 then (rootcellarref9_with.l0 k1 true (wrap64 (x9_1 + 1)) a1_0 a1_1 t332 t333 a0_0 (y344 ++ [(⟨(rd_T64 t333 x9_1).f0, (rd_T64 t333 x9_1).f1⟩ : S64)])) else (none))) else (none)) else (if x339001_1.length < 5864062014805 then (rootcellarref9_with.l0 k1 false (wrap64 (x9_1 + 1)) a1_0 a1_1 t332 t333 a0_0 (x339001_1 ++ [(⟨(rd_T64 t333 x9_1).f0, (rd_T64 t333 x9_1).f1⟩ : S64)])) else (none))) else (none)) = some (r1, r2) := by rw [if_neg (show ¬ (false = true) by decide)] at H; exact H
     clear H
     have H := H1
     clear H1
     by_cases c40 : 0 ≤ x9_1
     ·rw [if_pos c40] at H
      have c40b0 : decide (0 ≤ x9_1) = true := decide_eq_true c40
      clear c40
      by_cases c41 : a1_0 < ((rd_T64 t333 x9_1).f0)
      ·rw [if_pos c41] at H
       have c41b0 : decide (a1_0 < ((rd_T64 t333 x9_1).f0)) = true := decide_eq_true c41
       clear c41
       by_cases c42 : x339001_1.length < 5864062014805
       ·rw [if_pos c42] at H
        have LMc42 := Aside0.mk c42
        clear c42
        obtain ⟨y344, hy344⟩ : ∃ y_ : List (S64), y_ = (x339001_1 ++ [(⟨a1_0, a1_1⟩ : S64)]) := ⟨_, rfl⟩
        replace H : (if y344.length < 5864062014805 then (rootcellarref9_with.l0 k1 true (wrap64 (x9_1 + 1)) a1_0 a1_1 t332 t333 a0_0 (y344 ++ [(⟨(rd_T64 t333 x9_1).f0, (rd_T64 t333 x9_1).f1⟩ : S64)])) else (none)) = some (r1, r2) := by first | (rw [hy344]; with_reducible exact H) | (have H2_ := (Option.bind_some _ _).symm.trans H; rw [hy344]; with_reducible exact H2_) | (have H2_ := (Option.bind_some _ _).symm.trans H; with_reducible exact H2_) | with_reducible exact H | (rw [hy344]; exact H) | exact H
        have Ny344 := Aside0.mk hy344
        clear hy344
        by_cases c43 : y344.length < 5864062014805
        ·rw [if_pos c43] at H
         have LMc43 := Aside0.mk c43
         clear c43
         obtain ⟨y348, hy348⟩ : ∃ y_ : List (S64), y_ = (y344 ++ [(⟨(rd_T64 t333 x9_1).f0, (rd_T64 t333 x9_1).f1⟩ : S64)]) := ⟨_, rfl⟩
         replace H : (rootcellarref9_with.l0 k1 true (wrap64 (x9_1 + 1)) a1_0 a1_1 t332 t333 a0_0 y348) = some (r1, r2) := by first | (rw [hy348]; with_reducible exact H) | (have H2_ := (Option.bind_some _ _).symm.trans H; rw [hy348]; with_reducible exact H2_) | (have H2_ := (Option.bind_some _ _).symm.trans H; with_reducible exact H2_) | with_reducible exact H | (rw [hy348]; exact H) | exact H
         have Ny348 := Aside0.mk hy348
         clear hy348
         have H' := Aside0.mk H
         clear H
         have hnb44 := NB337_329.out
         have hnc44 := NB329_337.out
         have hnb45 := NB337_330.out
         have hnc45 := NB330_337.out
         have hnb46 := NB337_331.out
         have hnc46 := NB331_337.out
         have hnb47 := NB337_338.out
         have hnc47 := NB338_337.out
         have hcz48_0 : wr.cell? ⟨gb337, 0, none⟩ = some (.int .i64 t332) := (blk_cell BK337.out 0).trans rfl
         have hcz48_1 : wr.cell? ⟨gb337, 1, none⟩ = some (.slice Ao18 t333.length co18) := (blk_cell BK337.out 1).trans rfl
         have hfz48_0 := blk_frozen BK337.out 0
         have hfz48_1 := blk_frozen BK337.out 1
         try go_wp2
         have n0_ := Aside0.mk (Kd.R_drew HO_338001.out)
         have n1_ := Aside0.mk (Kd.R_drew HO_339001.out)
         have n2_ := Aside0.mk (blk_drew BK329.out)
         have n3_ := Aside0.mk (blk_drew BK330.out)
         have n4_ := Aside0.mk (blk_drew BK331.out)
         have n5_ := Aside0.mk (blk_drew BK337.out)
         have n6_ := Aside0.mk (blk_drew BK338.out)
         have n7_ := Aside0.mk (below_drew1 HB.out)
         clear HO_338001
         clear HO_339001
         clear BK329
         clear BK330
         clear BK331
         clear BK337
         clear BK338
         clear HB
         have HO_338001 := n0_
         have HO_339001 := n1_
         have BK329 := n2_
         have BK330 := n3_
         have BK331 := n4_
         have BK337 := n5_
         have BK338 := n6_
         have HB := n7_
         clear n0_ n1_ n2_ n3_ n4_ n5_ n6_ n7_
         have p343 : 0 ≤ (x9_1 : Int) := of_decide_eq_true (by first | (with_reducible assumption) | assumption)
         have q343 : x9_1 < (t333.length : Int) := of_decide_eq_true (by first | (with_reducible assumption) | assumption)
         obtain ⟨ad343, e343, hx343_0, hx343_1⟩ := at_T64 (Kd.R_reads' HO_338001.out).2.2 x9_1 p343 q343
         cases e343
         replace p343 := eq_true p343
         replace q343 := eq_true q343
         refine start_ (n := 13) (S := fun w' => w'.cell? ⟨gb330, 0, none⟩ = some (.int .i64 a1_0) ∧ w'.cell? ⟨gb330, 1, none⟩ = some (.string a1_1) ∧ w'.cell? ⟨gb337, 0, none⟩ = some (.int .i64 t332) ∧ w'.cell? ⟨gb337, 1, none⟩ = some (.slice (some ad343) t333.length co18) ∧ w'.cell? (ad343.add ((x9_1).toNat * 2)) = some (.int .i64 ((rd_T64 t333 x9_1).f0)) ∧ w'.cell? ⟨(ad343.add ((x9_1).toNat * 2)).block, (ad343.add ((x9_1).toNat * 2)).off + 1, none⟩ = some (.string ((rd_T64 t333 x9_1).f1))) (ds := []) #[false, false, false, false, false, false, false, false, false, false, false, false, false] (by kernel_rfl) rfl rfl ⟨(blk_cell BK330.out 0).trans rfl, (blk_cell BK330.out 1).trans rfl, (blk_cell BK337.out 0).trans rfl, (blk_cell BK337.out 1).trans rfl, hx343_0, hx343_1⟩ (fun hHeld => ?_); refine with_tabW rootcellarref9_with.tab7 rootcellarref9_with.bits7 (fun HT_ HW_ => ?_)
         generalize wr.drew = w49 at HO_338001 HO_339001 BK329 BK330 BK331 BK337 BK338 HB hx343_0 hx343_1 hHeld ⊢
         refine pure_ (i := 0) (N := some 27) (v := ?_) (a' := ?_) #[true, false, false, false, false, false, false, false, false, false, false, false, false] rfl rfl (any_of HT_.out (by kernel_rfl)) (fun _ _ _ h => h) (Or.inl ⟨by rfl, ?_⟩) ?_ ?_
         rotate_left
         ·intro w'
          go_simp
          with_reducible rfl
         rotate_left
         ·simp only [Act.put, List.setIfInBounds_toArray, List.set_cons_zero, List.set_cons_succ, i64_w, i32_w]
          rfl
         refine pure_ (i := 1) (N := some 28) (v := ?_) (a' := ?_) #[true, true, false, false, false, false, false, false, false, false, false, false, false] rfl rfl (any_of HT_.out (by kernel_rfl)) (fun _ _ _ h => h) (Or.inl ⟨by rfl, ?_⟩) ?_ ?_
         rotate_left
         ·intro w'
          go_simp
          with_reducible rfl
         rotate_left
         ·simp only [Act.put, List.setIfInBounds_toArray, List.set_cons_zero, List.set_cons_succ, i64_w, i32_w]
          rfl
         refine pure_ (i := 2) (N := some 29) (v := ?_) (a' := ?_) #[true, true, true, false, false, false, false, false, false, false, false, false, false] rfl rfl (any_of HT_.out (by kernel_rfl)) (fun _ _ _ h => h) (Or.inl ⟨by rfl, ?_⟩) ?_ ?_
         rotate_left
         ·intro w'
          go_simp
          with_reducible rfl
         rotate_left
         ·simp only [Act.put, List.setIfInBounds_toArray, List.set_cons_zero, List.set_cons_succ, i64_w, i32_w]
          rfl
         refine pure_ (i := 3) (N := some 30) (v := ?_) (a' := ?_) #[true, true, true, true, false, false, false, false, false, false, false, false, false] rfl rfl (any_of HT_.out (by kernel_rfl)) (fun _ _ _ h => h) (Or.inl ⟨by rfl, ?_⟩) ?_ ?_
         rotate_left
         ·intro w'
          go_simp
          with_reducible rfl
         rotate_left
         ·simp only [Act.put, List.setIfInBounds_toArray, List.set_cons_zero, List.set_cons_succ, i64_w, i32_w]
          rfl
         refine pure_ (i := 5) (N := some 32) (v := ?_) (a' := ?_) #[true, true, true, true, false, true, false, false, false, false, false, false, false] rfl rfl (any_of HT_.out (by kernel_rfl)) (fun _ _ _ h => h) (Or.inl ⟨by rfl, ?_⟩) ?_ ?_
         rotate_left
         ·intro w'
          go_simp
          with_reducible rfl
         rotate_left
         ·simp only [Act.put, List.setIfInBounds_toArray, List.set_cons_zero, List.set_cons_succ, i64_w, i32_w]
          rfl
         refine pure_ (i := 7) (N := some 34) (v := ?_) (a' := ?_) #[true, true, true, true, false, true, false, true, false, false, false, false, false] rfl rfl (any_of HT_.out (by kernel_rfl)) (fun _ _ _ h => h) (Or.inl ⟨by rfl, ?_⟩) ?_ ?_
         rotate_left
         ·intro w'
          go_simp
          with_reducible rfl
         rotate_left
         ·simp only [Act.put, List.setIfInBounds_toArray, List.set_cons_zero, List.set_cons_succ, i64_w, i32_w]
          rfl
         refine take_ (i := 4) (N := some 31) (v := ?_) (a' := ?_) #[true, true, true, true, true, true, false, true, false, false, false, false, false] rfl rfl (take_ofW HT_.out HW_.out (by kernel_rfl)) (fun _ _ _ h => h) (Or.inl ⟨by rfl, ?_⟩) hHeld ?_ ?_
         rotate_left
         ·rintro w' ⟨s0, s1, s2, s3, s4, s5⟩
          go_simp
          with_reducible rfl
         rotate_left
         ·simp only [Act.put, List.setIfInBounds_toArray, List.set_cons_zero, List.set_cons_succ, i64_w, i32_w]
          rfl
         refine take_ (i := 6) (N := some 33) (v := ?_) (a' := ?_) #[true, true, true, true, true, true, true, true, false, false, false, false, false] rfl rfl (take_ofW HT_.out HW_.out (by kernel_rfl)) (fun _ _ _ h => h) (Or.inl ⟨by rfl, ?_⟩) hHeld ?_ ?_
         rotate_left
         ·rintro w' ⟨s0, s1, s2, s3, s4, s5⟩
          go_simp
          with_reducible rfl
         rotate_left
         ·simp only [Act.put, List.setIfInBounds_toArray, List.set_cons_zero, List.set_cons_succ, i64_w, i32_w]
          rfl
         refine pure_ (i := 8) (N := some 35) (v := ?_) (a' := ?_) #[true, true, true, true, true, true, true, true, true, false, false, false, false] rfl rfl (any_of HT_.out (by kernel_rfl)) (fun _ _ _ h => h) (Or.inl ⟨by rfl, ?_⟩) ?_ ?_
         rotate_left
         ·intro w'
          go_simp
          with_reducible rfl
         rotate_left
         ·simp only [Act.put, List.setIfInBounds_toArray, List.set_cons_zero, List.set_cons_succ, i64_w, i32_w]
          rfl
         refine pure_ (i := 9) (N := some 36) (v := ?_) (a' := ?_) #[true, true, true, true, true, true, true, true, true, true, false, false, false] rfl rfl (any_of HT_.out (by kernel_rfl)) (fun _ _ _ h => h) (Or.inl ⟨by rfl, ?_⟩) ?_ ?_
         rotate_left
         ·intro w'
          go_simp
          with_reducible rfl
         rotate_left
         ·simp only [Act.put, List.setIfInBounds_toArray, List.set_cons_zero, List.set_cons_succ, i64_w, i32_w]
          rfl
         refine take_ (i := 10) (N := some 37) (v := ?_) (a' := ?_) #[true, true, true, true, true, true, true, true, true, true, true, false, false] rfl rfl (take_ofW HT_.out HW_.out (by kernel_rfl)) (fun _ _ _ h => h) (Or.inl ⟨by rfl, ?_⟩) hHeld ?_ ?_
         rotate_left
         ·rintro w' ⟨s0, s1, s2, s3, s4, s5⟩
          go_simp
          with_reducible rfl
         rotate_left
         ·simp only [Act.put, List.setIfInBounds_toArray, List.set_cons_zero, List.set_cons_succ, i64_w, i32_w]
          rfl
         refine pure_ (i := 11) (N := some 38) (v := ?_) (a' := ?_) #[true, true, true, true, true, true, true, true, true, true, true, true, false] rfl rfl (any_of HT_.out (by kernel_rfl)) (fun _ _ _ h => h) (Or.inl ⟨by rfl, ?_⟩) ?_ ?_
         rotate_left
         ·intro w'
          go_simp
          with_reducible rfl
         rotate_left
         ·simp only [Act.put, List.setIfInBounds_toArray, List.set_cons_zero, List.set_cons_succ, i64_w, i32_w]
          rfl
         refine pure_ (i := 12) (N := some 39) (v := ?_) (a' := ?_) #[true, true, true, true, true, true, true, true, true, true, true, true, true] rfl rfl (any_of HT_.out (by kernel_rfl)) (fun _ _ _ h => h) (Or.inl ⟨by rfl, ?_⟩) ?_ ?_
         rotate_left
         ·intro w'
          go_simp
          with_reducible rfl
         rotate_left
         ·simp only [Act.put, List.setIfInBounds_toArray, List.set_cons_zero, List.set_cons_succ, i64_w, i32_w]
          rfl
         refine done_ (done_of HT_.out (by kernel_rfl)) ?_
         have hnb50 := NB338_329.out
         have hnc50 := NB329_338.out
         have hnb51 := NB338_330.out
         have hnc51 := NB330_338.out
         have hnb52 := NB338_331.out
         have hnc52 := NB331_338.out
         have hcz53_0 : w49.cell? ⟨gb338, 0, none⟩ = some (.int .i64 a0_0) := (blk_cell BK338.out 0).trans rfl
         have hcz53_1 : w49.cell? ⟨gb338, 1, none⟩ = some (u339001) := (blk_cell BK338.out 1).trans rfl
         have hfz53_0 := blk_frozen BK338.out 0
         have hfz53_1 := blk_frozen BK338.out 1
         have hnb54 := NB330_329.out
         have hnc54 := NB329_330.out
         have hnb55 := NB330_331.out
         have hnc55 := NB331_330.out
         have hcz56_0 : w49.cell? ⟨gb330, 0, none⟩ = some (.int .i64 a1_0) := (blk_cell BK330.out 0).trans rfl
         have hcz56_1 : w49.cell? ⟨gb330, 1, none⟩ = some (.string a1_1) := (blk_cell BK330.out 1).trans rfl
         have hfz56_0 := blk_frozen BK330.out 0
         have hfz56_1 := blk_frozen BK330.out 1
         try go_wp2_with (first | ((with_reducible refine gate_builtin (b := .append) (xs := #[.tmp 41, .tmp 43]) rfl ?_); at_builtin; refine Kd.R_append k64 (w0 := w) w.heap.size rfl (.tmp 41) (.tmp 43) 41 64 (.agg #[(.int .i64 0), (.string ⟨#[]⟩)]) 24 rfl Try.underlying41 info64 rfl (by decide) (by omega) u339001 x339001_1 (⟨a1_0, a1_1⟩ : S64) [.int .i64 a1_0, .string a1_1] (fun k_ => some k_ ≠ (.slice (some ad343) t333.length co18 : Value).ownBlock ∧ k_ ≠ gb330) (fun _ => False) rfl rfl ?aP (fun _ hk => hk.elim) ?aF ?aO ?aB ?aS ?aL ?_; (case aP => exact k64_mkM _ _ _ (⟨a1_0, a1_1⟩ : S64)); (case aB => exact (by repeat (first | (with_reducible first | exact HB.out | apply below_alloc | apply pw_below_drewN | apply below_drew1 | refine below_set ?_ GE329.out | refine below_set ?_ GE330.out | refine below_set ?_ GE331.out | refine below_set ?_ GE337.out | refine below_set ?_ GE338.out) | exact HB.out))); (case aF => exact (fun k_ hk => ⟨Kd.fresh' (Kd.R_lt (by (with_reducible repeat (first | apply Kd.R_alloc | apply Kd.R_drewN | apply Kd.R_drew)); exact HO_338001.out)) k_ hk, Kd.freshB (g := gb330) (o := .cells #[.int .i64 a1_0, .string a1_1] 64 (0, 0)) (by (with_reducible repeat (first | refine blk_drewN ?_ _ | refine blk_drew ?_ | refine blk_alloc ?_ _)); exact BK330.out) k_ hk⟩)); (case aO => exact (by (with_reducible repeat (first | apply Kd.R_alloc | apply Kd.R_drewN | apply Kd.R_drew)); exact HO_339001.out)); (case aS => exact (below_size (by repeat (first | (with_reducible first | exact HB.out | apply below_alloc | apply pw_below_drewN | apply below_drew1 | refine below_set ?_ GE329.out | refine below_set ?_ GE330.out | refine below_set ?_ GE331.out | refine below_set ?_ GE337.out | refine below_set ?_ GE338.out) | exact HB.out)))); (case aL => have := LMc42.out; omega); intro v345 w57 ho hb hg hat; rw [← Ny344.out] at ho; have n0_ := Aside0.mk (Kd.R_after (ok := (fun k_ => k_ ≠ gb330)) (by (with_reducible repeat (first | apply Kd.R_alloc | apply Kd.R_drewN | apply Kd.R_drew)); exact Kd.R_mono HO_338001.out (fun _ hk => ⟨hk.2, hk.1⟩)) hg hat); have n1_ := Aside0.mk (blk_grown (g := gb329) (o := .cells #[.int .i64 a0_0, .slice A0_1 l0_1.length c0_1] 43 (0, 0)) (by (with_reducible repeat (first | refine blk_drewN ?_ _ | refine blk_drew ?_ | refine blk_alloc ?_ _)); exact BK329.out) hg (Kd.R_ne HO_339001.out BK329.out (by decide))); have n2_ := Aside0.mk (blk_grown (g := gb330) (o := .cells #[.int .i64 a1_0, .string a1_1] 64 (0, 0)) (by (with_reducible repeat (first | refine blk_drewN ?_ _ | refine blk_drew ?_ | refine blk_alloc ?_ _)); exact BK330.out) hg (Kd.R_away HO_339001.out (fun _ hk => hk.2))); have n3_ := Aside0.mk (blk_grown (g := gb331) (o := .cells #[.int .i64 0, .slice none 0 0] 43 (0, 0)) (by (with_reducible repeat (first | refine blk_drewN ?_ _ | refine blk_drew ?_ | refine blk_alloc ?_ _)); exact BK331.out) hg (Kd.R_ne HO_339001.out BK331.out (by decide))); have n4_ := Aside0.mk (blk_grown (g := gb337) (o := .cells #[.int .i64 t332, .slice (some ad343) t333.length co18] 43 (0, 0)) (by (with_reducible repeat (first | refine blk_drewN ?_ _ | refine blk_drew ?_ | refine blk_alloc ?_ _)); exact BK337.out) hg (Kd.R_ne HO_339001.out BK337.out (by decide))); have n5_ := Aside0.mk (blk_grown (g := gb338) (o := .cells #[.int .i64 a0_0, u339001] 43 (0, 0)) (by (with_reducible repeat (first | refine blk_drewN ?_ _ | refine blk_drew ?_ | refine blk_alloc ?_ _)); exact BK338.out) hg (Kd.R_ne HO_339001.out BK338.out (by decide))); have n6_ := Aside0.mk (hb); have n7_ := Aside0.mk (ho); clear HO_338001; clear BK329; clear BK330; clear BK331; clear BK337; clear BK338; clear HB; clear HO_339001; have HO_338001 := n0_; have BK329 := n1_; have BK330 := n2_; have BK331 := n3_; have BK337 := n4_; have BK338 := n5_; have HB := n6_; have HO346 := n7_; clear n0_ n1_ n2_ n3_ n4_ n5_ n6_ n7_; clear ho hb hg hat; obtain ⟨Ao58, co58, eo58⟩ := Kd.R_slice HO346.out; subst eo58; have hcz59_0 : w57.cell? ⟨gb338, 0, none⟩ = some (.int .i64 a0_0) := (blk_cell BK338.out 0).trans rfl; have hcz59_1 : w57.cell? ⟨gb338, 1, none⟩ = some (u339001) := (blk_cell BK338.out 1).trans rfl; have hfz59_0 := blk_frozen BK338.out 0; have hfz59_1 := blk_frozen BK338.out 1))
         have n0_ : Aside0 (Kd.R k64 64 (w57.setCell ⟨gb338, 1, none⟩ (.slice Ao58 y344.length co58)) w.heap.size (fun k_ => some k_ ≠ (.slice Ao58 y344.length co58 : Value).ownBlock ∧ k_ ≠ gb330) (.slice (some ad343) t333.length co18) t333) := ⟨by (with_reducible repeat (first | apply Kd.R_alloc | apply Kd.R_drewN | apply Kd.R_drew)); exact Kd.R_mono (Kd.R_far (p := ⟨gb338, 1, none⟩) (Kd.R_types HO_338001.out BK338.out (by decide)) (fun _ hk => hk.2) (.slice Ao58 y344.length co58)) (fun _ hk => ⟨hk.1.2, hk.1.1⟩)⟩
         have n1_ : Aside0 (Kd.R k64 64 (w57.setCell ⟨gb338, 1, none⟩ (.slice Ao58 y344.length co58)) w.heap.size (fun k_ => some k_ ≠ (.slice (some ad343) t333.length co18 : Value).ownBlock ∧ k_ ≠ gb330) (.slice Ao58 y344.length co58) y344) := ⟨by (with_reducible repeat (first | apply Kd.R_alloc | apply Kd.R_drewN | apply Kd.R_drew)); exact Kd.R_mono (Kd.R_far (p := ⟨gb338, 1, none⟩) (Kd.R_types HO346.out BK338.out (by decide)) (fun _ hk => hk.2) (.slice Ao58 y344.length co58)) (fun _ hk => ⟨hk.1.1, hk.1.2⟩)⟩
         have n2_ : Aside0 ((w57.setCell ⟨gb338, 1, none⟩ (.slice Ao58 y344.length co58)).heap[gb329]? = some (.cells #[.int .i64 a0_0, .slice A0_1 l0_1.length c0_1] 43 (0, 0))) := ⟨by (with_reducible repeat (first | refine blk_drewN ?_ _ | refine blk_drew ?_ | refine blk_alloc ?_ _)); refine blk_far ?_ NB329_338.out _; (with_reducible repeat (first | refine blk_drewN ?_ _ | refine blk_drew ?_ | refine blk_alloc ?_ _)); exact BK329.out⟩
         have n3_ : Aside0 ((w57.setCell ⟨gb338, 1, none⟩ (.slice Ao58 y344.length co58)).heap[gb330]? = some (.cells #[.int .i64 a1_0, .string a1_1] 64 (0, 0))) := ⟨by (with_reducible repeat (first | refine blk_drewN ?_ _ | refine blk_drew ?_ | refine blk_alloc ?_ _)); refine blk_far ?_ NB330_338.out _; (with_reducible repeat (first | refine blk_drewN ?_ _ | refine blk_drew ?_ | refine blk_alloc ?_ _)); exact BK330.out⟩
         have n4_ : Aside0 ((w57.setCell ⟨gb338, 1, none⟩ (.slice Ao58 y344.length co58)).heap[gb331]? = some (.cells #[.int .i64 0, .slice none 0 0] 43 (0, 0))) := ⟨by (with_reducible repeat (first | refine blk_drewN ?_ _ | refine blk_drew ?_ | refine blk_alloc ?_ _)); refine blk_far ?_ NB331_338.out _; (with_reducible repeat (first | refine blk_drewN ?_ _ | refine blk_drew ?_ | refine blk_alloc ?_ _)); exact BK331.out⟩
         have n5_ : Aside0 ((w57.setCell ⟨gb338, 1, none⟩ (.slice Ao58 y344.length co58)).heap[gb337]? = some (.cells #[.int .i64 t332, .slice (some ad343) t333.length co18] 43 (0, 0))) := ⟨by (with_reducible repeat (first | refine blk_drewN ?_ _ | refine blk_drew ?_ | refine blk_alloc ?_ _)); refine blk_far ?_ NB337_338.out _; (with_reducible repeat (first | refine blk_drewN ?_ _ | refine blk_drew ?_ | refine blk_alloc ?_ _)); exact BK337.out⟩
         have n6_ : Aside0 ((w57.setCell ⟨gb338, 1, none⟩ (.slice Ao58 y344.length co58)).heap[gb338]? = some (.cells #[.int .i64 a0_0, .slice Ao58 y344.length co58] 43 (0, 0))) := ⟨by (with_reducible repeat (first | refine blk_drewN ?_ _ | refine blk_drew ?_ | refine blk_alloc ?_ _)); refine blk_put (cs := #[.int .i64 a0_0, u339001]) ?_ 1 _ rfl; (with_reducible repeat (first | refine blk_drewN ?_ _ | refine blk_drew ?_ | refine blk_alloc ?_ _)); exact BK338.out⟩
         have n7_ : Aside0 (Below w.heap.size w (w57.setCell ⟨gb338, 1, none⟩ (.slice Ao58 y344.length co58))) := ⟨by repeat (first | (with_reducible first | exact HB.out | apply below_alloc | apply pw_below_drewN | apply below_drew1 | refine below_set ?_ GE329.out | refine below_set ?_ GE330.out | refine below_set ?_ GE331.out | refine below_set ?_ GE337.out | refine below_set ?_ GE338.out) | exact HB.out)⟩
         (try clear HO_338001)
         (try clear HO346)
         (try clear BK329)
         (try clear BK330)
         (try clear BK331)
         (try clear BK337)
         (try clear BK338)
         (try clear HB)
         generalize (w57.setCell ⟨gb338, 1, none⟩ (.slice Ao58 y344.length co58)) = w60 at n0_ n1_ n2_ n3_ n4_ n5_ n6_ n7_ ⊢
         have HO_338001 := n0_
         have HO346 := n1_
         have BK329 := n2_
         have BK330 := n3_
         have BK331 := n4_
         have BK337 := n5_
         have BK338 := n6_
         have HB := n7_
         clear n0_ n1_ n2_ n3_ n4_ n5_ n6_ n7_
         have n0_ := Aside0.mk (Kd.R_drew HO_338001.out)
         have n1_ := Aside0.mk (Kd.R_drew HO346.out)
         have n2_ := Aside0.mk (blk_drew BK329.out)
         have n3_ := Aside0.mk (blk_drew BK330.out)
         have n4_ := Aside0.mk (blk_drew BK331.out)
         have n5_ := Aside0.mk (blk_drew BK337.out)
         have n6_ := Aside0.mk (blk_drew BK338.out)
         have n7_ := Aside0.mk (below_drew1 HB.out)
         clear HO_338001
         clear HO346
         clear BK329
         clear BK330
         clear BK331
         clear BK337
         clear BK338
         clear HB
         have HO_338001 := n0_
         have HO346 := n1_
         have BK329 := n2_
         have BK330 := n3_
         have BK331 := n4_
         have BK337 := n5_
         have BK338 := n6_
         have HB := n7_
         clear n0_ n1_ n2_ n3_ n4_ n5_ n6_ n7_
         have p347 : 0 ≤ (x9_1 : Int) := of_decide_eq_true (by first | (with_reducible assumption) | assumption)
         have q347 : x9_1 < (t333.length : Int) := of_decide_eq_true (by first | (with_reducible assumption) | assumption)
         obtain ⟨ad347, e347, hx347_0, hx347_1⟩ := at_T64 (Kd.R_reads' HO_338001.out).2.2 x9_1 p347 q347
         obtain rfl : ad343 = ad347 := (by injection e347)
         replace p347 := eq_true p347
         replace q347 := eq_true q347
         refine start_ (n := 11) (S := fun w' => w'.cell? ⟨gb338, 0, none⟩ = some (.int .i64 a0_0) ∧ w'.cell? ⟨gb338, 1, none⟩ = some (.slice Ao58 y344.length co58) ∧ w'.cell? ⟨gb337, 0, none⟩ = some (.int .i64 t332) ∧ w'.cell? ⟨gb337, 1, none⟩ = some (.slice (some ad343) t333.length co18) ∧ w'.cell? (ad343.add ((x9_1).toNat * 2)) = some (.int .i64 ((rd_T64 t333 x9_1).f0)) ∧ w'.cell? ⟨(ad343.add ((x9_1).toNat * 2)).block, (ad343.add ((x9_1).toNat * 2)).off + 1, none⟩ = some (.string ((rd_T64 t333 x9_1).f1))) (ds := [8, 10]) #[false, false, false, false, false, false, false, false, false, false, false] (by kernel_rfl) rfl rfl ⟨(blk_cell BK338.out 0).trans rfl, (blk_cell BK338.out 1).trans rfl, (blk_cell BK337.out 0).trans rfl, (blk_cell BK337.out 1).trans rfl, hx347_0, hx347_1⟩ (fun hHeld => ?_); refine with_tabW rootcellarref9_with.tab10 rootcellarref9_with.bits10 (fun HT_ HW_ => ?_)
         generalize w60.drew = w61 at HO_338001 HO346 BK329 BK330 BK331 BK337 BK338 HB hx347_0 hx347_1 hHeld ⊢
         refine pure_ (i := 0) (N := some 46) (v := ?_) (a' := ?_) #[true, false, false, false, false, false, false, false, false, false, false] rfl rfl (any_of HT_.out (by kernel_rfl)) (fun _ _ _ h => h) (Or.inl ⟨by rfl, ?_⟩) ?_ ?_
         rotate_left
         ·intro w'
          go_simp
          with_reducible rfl
         rotate_left
         ·simp only [Act.put, List.setIfInBounds_toArray, List.set_cons_zero, List.set_cons_succ, i64_w, i32_w]
          rfl
         refine pure_ (i := 2) (N := some 48) (v := ?_) (a' := ?_) #[true, false, true, false, false, false, false, false, false, false, false] rfl rfl (any_of HT_.out (by kernel_rfl)) (fun _ _ _ h => h) (Or.inl ⟨by rfl, ?_⟩) ?_ ?_
         rotate_left
         ·intro w'
          go_simp
          with_reducible rfl
         rotate_left
         ·simp only [Act.put, List.setIfInBounds_toArray, List.set_cons_zero, List.set_cons_succ, i64_w, i32_w]
          rfl
         refine pure_ (i := 4) (N := some 50) (v := ?_) (a' := ?_) #[true, false, true, false, true, false, false, false, false, false, false] rfl rfl (any_of HT_.out (by kernel_rfl)) (fun _ _ _ h => h) (Or.inl ⟨by rfl, ?_⟩) ?_ ?_
         rotate_left
         ·intro w'
          go_simp
          with_reducible rfl
         rotate_left
         ·simp only [Act.put, List.setIfInBounds_toArray, List.set_cons_zero, List.set_cons_succ, i64_w, i32_w]
          rfl
         refine take_ (i := 1) (N := some 47) (v := ?_) (a' := ?_) #[true, true, true, false, true, false, false, false, false, false, false] rfl rfl (take_ofW HT_.out HW_.out (by kernel_rfl)) (fun _ _ _ h => h) (Or.inl ⟨by rfl, ?_⟩) hHeld ?_ ?_
         rotate_left
         ·rintro w' ⟨s0, s1, s2, s3, s4, s5⟩
          go_simp
          with_reducible rfl
         rotate_left
         ·simp only [Act.put, List.setIfInBounds_toArray, List.set_cons_zero, List.set_cons_succ, i64_w, i32_w]
          rfl
         refine take_ (i := 3) (N := some 49) (v := ?_) (a' := ?_) #[true, true, true, true, true, false, false, false, false, false, false] rfl rfl (take_ofW HT_.out HW_.out (by kernel_rfl)) (fun _ _ _ h => h) (Or.inl ⟨by rfl, ?_⟩) hHeld ?_ ?_
         rotate_left
         ·rintro w' ⟨s0, s1, s2, s3, s4, s5⟩
          go_simp
          with_reducible rfl
         rotate_left
         ·simp only [Act.put, List.setIfInBounds_toArray, List.set_cons_zero, List.set_cons_succ, i64_w, i32_w]
          rfl
         refine pure_ (i := 5) (N := some 51) (v := ?_) (a' := ?_) #[true, true, true, true, true, true, false, false, false, false, false] rfl rfl (any_of HT_.out (by kernel_rfl)) (fun _ _ _ h => h) (Or.inl ⟨by rfl, ?_⟩) ?_ ?_
         rotate_left
         ·intro w'
          go_simp
          with_reducible rfl
         rotate_left
         ·simp only [Act.put, List.setIfInBounds_toArray, List.set_cons_zero, List.set_cons_succ, i64_w, i32_w]
          rfl
         refine take_ (i := 6) (N := some 52) (v := ?_) (a' := ?_) #[true, true, true, true, true, true, true, false, false, false, false] rfl rfl (take_ofW HT_.out HW_.out (by kernel_rfl)) (fun _ _ _ h => h) (Or.inl ⟨by rfl, ?_⟩) hHeld ?_ ?_
         rotate_left
         ·rintro w' ⟨s0, s1, s2, s3, s4, s5⟩
          go_simp
          with_reducible rfl
         rotate_left
         ·simp only [Act.put, List.setIfInBounds_toArray, List.set_cons_zero, List.set_cons_succ, i64_w, i32_w]
          rfl
         refine one_ (i := 7) (N := some 53) #[true, true, true, true, true, true, true, true, false, false, false] rfl rfl (one_of HT_.out (by kernel_rfl)) (by decide) (fun K hK => ?_)
         refine value_ (w1 := ?_) (v := ?_) (by rfl) rfl ?_ ?_
         rotate_left 2
         ·go_simp
          constructor
          ·rfl
          ·rfl
         refine hK.out _ _ ⟨(blk_cell (blk_alloc BK338.out _) 0).trans rfl, (blk_cell (blk_alloc BK338.out _) 1).trans rfl, (blk_cell (blk_alloc BK337.out _) 0).trans rfl, (blk_cell (blk_alloc BK337.out _) 1).trans rfl, (World.cell?_alloc_lt _ _ _ (World.block_lt_of_cell? _ _ (hHeld.2.2.2.2.1))).trans (hHeld.2.2.2.2.1), (World.cell?_alloc_lt _ _ _ (World.block_lt_of_cell? _ _ (hHeld.2.2.2.2.2))).trans (hHeld.2.2.2.2.2)⟩ (fun hHeld => ?_)
         clear hK K
         refine norm_ (a' := ?_) ?_ ?_
         rotate_left
         ·show Act.put _ (some 53) _ = _
          simp only [Act.put, List.setIfInBounds_toArray, List.set_cons_zero, List.set_cons_succ, i64_w, i32_w]
          rfl
         refine last_ (i := 8) (N := some 54) #[true, true, true, true, true, true, true, true, true, false, false] rfl rfl (one_of HT_.out (by kernel_rfl)) (by decide) (fun K hK => ?_)
         refine Kd.R_append_step k64 (w0 := w) w.heap.size (by rfl) (.tmp 47) (.tmp 53) 41 64 (.agg #[(.int .i64 0), (.string ⟨#[]⟩)]) 24 rfl Try.underlying41 info64 rfl (by decide) (by omega) (.slice Ao58 y344.length co58) y344 (⟨(rd_T64 t333 x9_1).f0, (rd_T64 t333 x9_1).f1⟩ : S64) [.int .i64 ((rd_T64 t333 x9_1).f0), .string ((rd_T64 t333 x9_1).f1)] (fun k_ => some k_ ≠ (.slice (some ad343) t333.length co18 : Value).ownBlock ∧ k_ ≠ gb330) (fun _ => False) rfl rfl ?aP (fun _ hk => hk.elim) ?aF ?aO ?aB ?aS ?aL ?_
         (case aP => exact k64_mkM _ _ _ (⟨(rd_T64 t333 x9_1).f0, (rd_T64 t333 x9_1).f1⟩ : S64))
         (case aB => exact (by repeat (first | (with_reducible first | exact HB.out | apply below_alloc | apply pw_below_drewN | apply below_drew1 | refine below_set ?_ GE329.out | refine below_set ?_ GE330.out | refine below_set ?_ GE331.out | refine below_set ?_ GE337.out | refine below_set ?_ GE338.out) | exact HB.out)))
         (case aF => exact (fun k_ hk => ⟨Kd.fresh' (Kd.R_lt (by (with_reducible repeat (first | apply Kd.R_alloc | apply Kd.R_drewN | apply Kd.R_drew)); exact HO_338001.out)) k_ hk, Kd.freshB (g := gb330) (o := .cells #[.int .i64 a1_0, .string a1_1] 64 (0, 0)) (by (with_reducible repeat (first | refine blk_drewN ?_ _ | refine blk_drew ?_ | refine blk_alloc ?_ _)); exact BK330.out) k_ hk⟩))
         (case aO => exact (by (with_reducible repeat (first | apply Kd.R_alloc | apply Kd.R_drewN | apply Kd.R_drew)); exact HO346.out))
         (case aS => exact (below_size (by repeat (first | (with_reducible first | exact HB.out | apply below_alloc | apply pw_below_drewN | apply below_drew1 | refine below_set ?_ GE329.out | refine below_set ?_ GE330.out | refine below_set ?_ GE331.out | refine below_set ?_ GE337.out | refine below_set ?_ GE338.out) | exact HB.out))))
         (case aL => have := LMc43.out; omega)
         intro v349 w62 ho hb hg hat
         rw [← Ny348.out] at ho
         have n0_ := Aside0.mk (Kd.R_after (ok := (fun k_ => k_ ≠ gb330)) (by (with_reducible repeat (first | apply Kd.R_alloc | apply Kd.R_drewN | apply Kd.R_drew)); exact Kd.R_mono HO_338001.out (fun _ hk => ⟨hk.2, hk.1⟩)) hg hat)
         have n1_ := Aside0.mk (blk_grown (g := gb329) (o := .cells #[.int .i64 a0_0, .slice A0_1 l0_1.length c0_1] 43 (0, 0)) (by (with_reducible repeat (first | refine blk_drewN ?_ _ | refine blk_drew ?_ | refine blk_alloc ?_ _)); exact BK329.out) hg (Kd.R_ne HO346.out BK329.out (by decide)))
         have n2_ := Aside0.mk (blk_grown (g := gb330) (o := .cells #[.int .i64 a1_0, .string a1_1] 64 (0, 0)) (by (with_reducible repeat (first | refine blk_drewN ?_ _ | refine blk_drew ?_ | refine blk_alloc ?_ _)); exact BK330.out) hg (Kd.R_away HO346.out (fun _ hk => hk.2)))
         have n3_ := Aside0.mk (blk_grown (g := gb331) (o := .cells #[.int .i64 0, .slice none 0 0] 43 (0, 0)) (by (with_reducible repeat (first | refine blk_drewN ?_ _ | refine blk_drew ?_ | refine blk_alloc ?_ _)); exact BK331.out) hg (Kd.R_ne HO346.out BK331.out (by decide)))
         have n4_ := Aside0.mk (blk_grown (g := gb337) (o := .cells #[.int .i64 t332, .slice (some ad343) t333.length co18] 43 (0, 0)) (by (with_reducible repeat (first | refine blk_drewN ?_ _ | refine blk_drew ?_ | refine blk_alloc ?_ _)); exact BK337.out) hg (Kd.R_ne HO346.out BK337.out (by decide)))
         have n5_ := Aside0.mk (blk_grown (g := gb338) (o := .cells #[.int .i64 a0_0, .slice Ao58 y344.length co58] 43 (0, 0)) (by (with_reducible repeat (first | refine blk_drewN ?_ _ | refine blk_drew ?_ | refine blk_alloc ?_ _)); exact BK338.out) hg (Kd.R_ne HO346.out BK338.out (by decide)))
         have n6_ := Aside0.mk (hb)
         have n7_ := Aside0.mk (ho)
         clear HO_338001
         clear BK329
         clear BK330
         clear BK331
         clear BK337
         clear BK338
         clear HB
         clear HO346
         have HO_338001 := n0_
         have BK329 := n1_
         have BK330 := n2_
         have BK331 := n3_
         have BK337 := n4_
         have BK338 := n5_
         have HB := n6_
         have HO350 := n7_
         clear n0_ n1_ n2_ n3_ n4_ n5_ n6_ n7_
         clear ho hb hg hat
         obtain ⟨Ao63, co63, eo63⟩ := Kd.R_slice HO350.out
         (first | subst eo63 | (injection eo63 with f1_ f2_ f3_; have f4_ := f1_.symm; have f5_ := f3_.symm; clear f1_ f2_ f3_; subst f4_; subst f5_))
         refine hK.out _ _ ?_
         clear hK K
         refine norm_ (a' := ?_) ?_ ?_
         rotate_left
         ·show Act.put _ (some 54) _ = _
          simp only [Act.put, List.setIfInBounds_toArray, List.set_cons_zero, List.set_cons_succ, i64_w, i32_w]
          rfl
         refine pure_ (i := 9) (N := some 55) (v := ?_) (a' := ?_) #[true, true, true, true, true, true, true, true, true, true, false] rfl rfl (any_of HT_.out (by kernel_rfl)) (fun _ _ _ h => h) (Or.inl ⟨by rfl, ?_⟩) ?_ ?_
         rotate_left
         ·intro w'
          go_simp
          with_reducible rfl
         rotate_left
         ·simp only [Act.put, List.setIfInBounds_toArray, List.set_cons_zero, List.set_cons_succ, i64_w, i32_w]
          rfl
         refine last_ (i := 10) (N := none) #[true, true, true, true, true, true, true, true, true, true, true] rfl rfl (one_of HT_.out (by kernel_rfl)) (by decide) (fun K hK => ?_)
         have hs64 : w62.cell? ⟨gb338, 1, none⟩ = some (.slice Ao58 y344.length co58) := (blk_cell BK338.out 1).trans rfl
         have hfs64 := blk_frozen BK338.out 1
         have hns64_0 := NB329_338.out
         have hns64_1 := NB330_338.out
         have hns64_2 := NB331_338.out
         have hns64_3 := NB337_338.out
         have hms64_0 := NB338_329.out
         have hms64_1 := NB338_330.out
         have hms64_2 := NB338_331.out
         have hms64_3 := NB338_337.out
         refine skip_ (w1 := ?_) (by rfl) rfl ?_ ?_
         rotate_left
         ·go_simp
          rfl
         refine hK.out _ _ ?_
         clear hK K
         refine done_ (done_of HT_.out (by kernel_rfl)) ?_
         try go_wp2
         go_roundg k1
         case measure => have := HK1.out; omega
         case rel => exact ⟨(true), (wrap64 (x9_1 + 1)), (y348), (.slice Ao63 y348.length co63), (by first | rfl | (simp; done) | (simp [*]; done)), (by first | rfl | (simp; done) | (simp [*]; done)), H', ⟨by have := HK1.out; omega⟩, ⟨by (with_reducible repeat (first | apply Kd.R_alloc | apply Kd.R_drewN | apply Kd.R_drew)); exact Kd.R_mono (Kd.R_far (p := ⟨gb338, 1, none⟩) (Kd.R_types HO_338001.out BK338.out (by decide)) (fun _ hk => hk.2) (.slice Ao63 y348.length co63)) (fun _ hk => ⟨hk.1.2, hk.1.1⟩)⟩, ⟨by (with_reducible repeat (first | apply Kd.R_alloc | apply Kd.R_drewN | apply Kd.R_drew)); exact Kd.R_mono (Kd.R_far (p := ⟨gb338, 1, none⟩) (Kd.R_types HO350.out BK338.out (by decide)) (fun _ hk => hk.2) (.slice Ao63 y348.length co63)) (fun _ hk => ⟨hk.1.1, hk.1.2⟩)⟩, ⟨by (with_reducible repeat (first | refine blk_drewN ?_ _ | refine blk_drew ?_ | refine blk_alloc ?_ _)); refine blk_far ?_ NB329_338.out _; (with_reducible repeat (first | refine blk_drewN ?_ _ | refine blk_drew ?_ | refine blk_alloc ?_ _)); exact BK329.out⟩, ⟨by (with_reducible repeat (first | refine blk_drewN ?_ _ | refine blk_drew ?_ | refine blk_alloc ?_ _)); refine blk_far ?_ NB330_338.out _; (with_reducible repeat (first | refine blk_drewN ?_ _ | refine blk_drew ?_ | refine blk_alloc ?_ _)); exact BK330.out⟩, ⟨by (with_reducible repeat (first | refine blk_drewN ?_ _ | refine blk_drew ?_ | refine blk_alloc ?_ _)); refine blk_far ?_ NB331_338.out _; (with_reducible repeat (first | refine blk_drewN ?_ _ | refine blk_drew ?_ | refine blk_alloc ?_ _)); exact BK331.out⟩, ⟨by (with_reducible repeat (first | refine blk_drewN ?_ _ | refine blk_drew ?_ | refine blk_alloc ?_ _)); refine blk_far ?_ NB337_338.out _; (with_reducible repeat (first | refine blk_drewN ?_ _ | refine blk_drew ?_ | refine blk_alloc ?_ _)); exact BK337.out⟩, ⟨by (with_reducible repeat (first | refine blk_drewN ?_ _ | refine blk_drew ?_ | refine blk_alloc ?_ _)); refine blk_put (cs := #[.int .i64 a0_0, .slice Ao58 y344.length co58]) ?_ 1 _ rfl; (with_reducible repeat (first | refine blk_drewN ?_ _ | refine blk_drew ?_ | refine blk_alloc ?_ _)); exact BK338.out⟩, ⟨by repeat (first | (with_reducible first | exact HB.out | apply below_alloc | apply pw_below_drewN | apply below_drew1 | refine below_set ?_ GE329.out | refine below_set ?_ GE330.out | refine below_set ?_ GE331.out | refine below_set ?_ GE337.out | refine below_set ?_ GE338.out) | exact HB.out)⟩⟩
        ·rw [if_neg c43] at H
         exact absurd H (by simp)
       ·rw [if_neg c42] at H
        exact absurd H (by simp)
      ·rw [if_neg c41] at H
       have c41b0 : decide (a1_0 < ((rd_T64 t333 x9_1).f0)) = false := decide_eq_false c41
       clear c41
       by_cases c65 : x339001_1.length < 5864062014805
       ·rw [if_pos c65] at H
        have LMc65 := Aside0.mk c65
        clear c65
        obtain ⟨y352, hy352⟩ : ∃ y_ : List (S64), y_ = (x339001_1 ++ [(⟨(rd_T64 t333 x9_1).f0, (rd_T64 t333 x9_1).f1⟩ : S64)]) := ⟨_, rfl⟩
        replace H : (rootcellarref9_with.l0 k1 false (wrap64 (x9_1 + 1)) a1_0 a1_1 t332 t333 a0_0 y352) = some (r1, r2) := by first | (rw [hy352]; with_reducible exact H) | (have H2_ := (Option.bind_some _ _).symm.trans H; rw [hy352]; with_reducible exact H2_) | (have H2_ := (Option.bind_some _ _).symm.trans H; with_reducible exact H2_) | with_reducible exact H | (rw [hy352]; exact H) | exact H
        have Ny352 := Aside0.mk hy352
        clear hy352
        have H' := Aside0.mk H
        clear H
        have hnb66 := NB337_329.out
        have hnc66 := NB329_337.out
        have hnb67 := NB337_330.out
        have hnc67 := NB330_337.out
        have hnb68 := NB337_331.out
        have hnc68 := NB331_337.out
        have hnb69 := NB337_338.out
        have hnc69 := NB338_337.out
        have hcz70_0 : wr.cell? ⟨gb337, 0, none⟩ = some (.int .i64 t332) := (blk_cell BK337.out 0).trans rfl
        have hcz70_1 : wr.cell? ⟨gb337, 1, none⟩ = some (.slice Ao18 t333.length co18) := (blk_cell BK337.out 1).trans rfl
        have hfz70_0 := blk_frozen BK337.out 0
        have hfz70_1 := blk_frozen BK337.out 1
        try go_wp2
        have n0_ := Aside0.mk (Kd.R_drew HO_338001.out)
        have n1_ := Aside0.mk (Kd.R_drew HO_339001.out)
        have n2_ := Aside0.mk (blk_drew BK329.out)
        have n3_ := Aside0.mk (blk_drew BK330.out)
        have n4_ := Aside0.mk (blk_drew BK331.out)
        have n5_ := Aside0.mk (blk_drew BK337.out)
        have n6_ := Aside0.mk (blk_drew BK338.out)
        have n7_ := Aside0.mk (below_drew1 HB.out)
        clear HO_338001
        clear HO_339001
        clear BK329
        clear BK330
        clear BK331
        clear BK337
        clear BK338
        clear HB
        have HO_338001 := n0_
        have HO_339001 := n1_
        have BK329 := n2_
        have BK330 := n3_
        have BK331 := n4_
        have BK337 := n5_
        have BK338 := n6_
        have HB := n7_
        clear n0_ n1_ n2_ n3_ n4_ n5_ n6_ n7_
        have p343 : 0 ≤ (x9_1 : Int) := of_decide_eq_true (by first | (with_reducible assumption) | assumption)
        have q343 : x9_1 < (t333.length : Int) := of_decide_eq_true (by first | (with_reducible assumption) | assumption)
        obtain ⟨ad343, e343, hx343_0, hx343_1⟩ := at_T64 (Kd.R_reads' HO_338001.out).2.2 x9_1 p343 q343
        cases e343
        replace p343 := eq_true p343
        replace q343 := eq_true q343
        refine start_ (n := 13) (S := fun w' => w'.cell? ⟨gb330, 0, none⟩ = some (.int .i64 a1_0) ∧ w'.cell? ⟨gb330, 1, none⟩ = some (.string a1_1) ∧ w'.cell? ⟨gb337, 0, none⟩ = some (.int .i64 t332) ∧ w'.cell? ⟨gb337, 1, none⟩ = some (.slice (some ad343) t333.length co18) ∧ w'.cell? (ad343.add ((x9_1).toNat * 2)) = some (.int .i64 ((rd_T64 t333 x9_1).f0)) ∧ w'.cell? ⟨(ad343.add ((x9_1).toNat * 2)).block, (ad343.add ((x9_1).toNat * 2)).off + 1, none⟩ = some (.string ((rd_T64 t333 x9_1).f1))) (ds := []) #[false, false, false, false, false, false, false, false, false, false, false, false, false] (by kernel_rfl) rfl rfl ⟨(blk_cell BK330.out 0).trans rfl, (blk_cell BK330.out 1).trans rfl, (blk_cell BK337.out 0).trans rfl, (blk_cell BK337.out 1).trans rfl, hx343_0, hx343_1⟩ (fun hHeld => ?_); refine with_tabW rootcellarref9_with.tab7 rootcellarref9_with.bits7 (fun HT_ HW_ => ?_)
        generalize wr.drew = w71 at HO_338001 HO_339001 BK329 BK330 BK331 BK337 BK338 HB hx343_0 hx343_1 hHeld ⊢
        refine pure_ (i := 0) (N := some 27) (v := ?_) (a' := ?_) #[true, false, false, false, false, false, false, false, false, false, false, false, false] rfl rfl (any_of HT_.out (by kernel_rfl)) (fun _ _ _ h => h) (Or.inl ⟨by rfl, ?_⟩) ?_ ?_
        rotate_left
        ·intro w'
         go_simp
         with_reducible rfl
        rotate_left
        ·simp only [Act.put, List.setIfInBounds_toArray, List.set_cons_zero, List.set_cons_succ, i64_w, i32_w]
         rfl
        refine pure_ (i := 1) (N := some 28) (v := ?_) (a' := ?_) #[true, true, false, false, false, false, false, false, false, false, false, false, false] rfl rfl (any_of HT_.out (by kernel_rfl)) (fun _ _ _ h => h) (Or.inl ⟨by rfl, ?_⟩) ?_ ?_
        rotate_left
        ·intro w'
         go_simp
         with_reducible rfl
        rotate_left
        ·simp only [Act.put, List.setIfInBounds_toArray, List.set_cons_zero, List.set_cons_succ, i64_w, i32_w]
         rfl
        refine pure_ (i := 2) (N := some 29) (v := ?_) (a' := ?_) #[true, true, true, false, false, false, false, false, false, false, false, false, false] rfl rfl (any_of HT_.out (by kernel_rfl)) (fun _ _ _ h => h) (Or.inl ⟨by rfl, ?_⟩) ?_ ?_
        rotate_left
        ·intro w'
         go_simp
         with_reducible rfl
        rotate_left
        ·simp only [Act.put, List.setIfInBounds_toArray, List.set_cons_zero, List.set_cons_succ, i64_w, i32_w]
         rfl
        refine pure_ (i := 3) (N := some 30) (v := ?_) (a' := ?_) #[true, true, true, true, false, false, false, false, false, false, false, false, false] rfl rfl (any_of HT_.out (by kernel_rfl)) (fun _ _ _ h => h) (Or.inl ⟨by rfl, ?_⟩) ?_ ?_
        rotate_left
        ·intro w'
         go_simp
         with_reducible rfl
        rotate_left
        ·simp only [Act.put, List.setIfInBounds_toArray, List.set_cons_zero, List.set_cons_succ, i64_w, i32_w]
         rfl
        refine pure_ (i := 5) (N := some 32) (v := ?_) (a' := ?_) #[true, true, true, true, false, true, false, false, false, false, false, false, false] rfl rfl (any_of HT_.out (by kernel_rfl)) (fun _ _ _ h => h) (Or.inl ⟨by rfl, ?_⟩) ?_ ?_
        rotate_left
        ·intro w'
         go_simp
         with_reducible rfl
        rotate_left
        ·simp only [Act.put, List.setIfInBounds_toArray, List.set_cons_zero, List.set_cons_succ, i64_w, i32_w]
         rfl
        refine pure_ (i := 7) (N := some 34) (v := ?_) (a' := ?_) #[true, true, true, true, false, true, false, true, false, false, false, false, false] rfl rfl (any_of HT_.out (by kernel_rfl)) (fun _ _ _ h => h) (Or.inl ⟨by rfl, ?_⟩) ?_ ?_
        rotate_left
        ·intro w'
         go_simp
         with_reducible rfl
        rotate_left
        ·simp only [Act.put, List.setIfInBounds_toArray, List.set_cons_zero, List.set_cons_succ, i64_w, i32_w]
         rfl
        refine take_ (i := 4) (N := some 31) (v := ?_) (a' := ?_) #[true, true, true, true, true, true, false, true, false, false, false, false, false] rfl rfl (take_ofW HT_.out HW_.out (by kernel_rfl)) (fun _ _ _ h => h) (Or.inl ⟨by rfl, ?_⟩) hHeld ?_ ?_
        rotate_left
        ·rintro w' ⟨s0, s1, s2, s3, s4, s5⟩
         go_simp
         with_reducible rfl
        rotate_left
        ·simp only [Act.put, List.setIfInBounds_toArray, List.set_cons_zero, List.set_cons_succ, i64_w, i32_w]
         rfl
        refine take_ (i := 6) (N := some 33) (v := ?_) (a' := ?_) #[true, true, true, true, true, true, true, true, false, false, false, false, false] rfl rfl (take_ofW HT_.out HW_.out (by kernel_rfl)) (fun _ _ _ h => h) (Or.inl ⟨by rfl, ?_⟩) hHeld ?_ ?_
        rotate_left
        ·rintro w' ⟨s0, s1, s2, s3, s4, s5⟩
         go_simp
         with_reducible rfl
        rotate_left
        ·simp only [Act.put, List.setIfInBounds_toArray, List.set_cons_zero, List.set_cons_succ, i64_w, i32_w]
         rfl
        refine pure_ (i := 8) (N := some 35) (v := ?_) (a' := ?_) #[true, true, true, true, true, true, true, true, true, false, false, false, false] rfl rfl (any_of HT_.out (by kernel_rfl)) (fun _ _ _ h => h) (Or.inl ⟨by rfl, ?_⟩) ?_ ?_
        rotate_left
        ·intro w'
         go_simp
         with_reducible rfl
        rotate_left
        ·simp only [Act.put, List.setIfInBounds_toArray, List.set_cons_zero, List.set_cons_succ, i64_w, i32_w]
         rfl
        refine pure_ (i := 9) (N := some 36) (v := ?_) (a' := ?_) #[true, true, true, true, true, true, true, true, true, true, false, false, false] rfl rfl (any_of HT_.out (by kernel_rfl)) (fun _ _ _ h => h) (Or.inl ⟨by rfl, ?_⟩) ?_ ?_
        rotate_left
        ·intro w'
         go_simp
         with_reducible rfl
        rotate_left
        ·simp only [Act.put, List.setIfInBounds_toArray, List.set_cons_zero, List.set_cons_succ, i64_w, i32_w]
         rfl
        refine take_ (i := 10) (N := some 37) (v := ?_) (a' := ?_) #[true, true, true, true, true, true, true, true, true, true, true, false, false] rfl rfl (take_ofW HT_.out HW_.out (by kernel_rfl)) (fun _ _ _ h => h) (Or.inl ⟨by rfl, ?_⟩) hHeld ?_ ?_
        rotate_left
        ·rintro w' ⟨s0, s1, s2, s3, s4, s5⟩
         go_simp
         with_reducible rfl
        rotate_left
        ·simp only [Act.put, List.setIfInBounds_toArray, List.set_cons_zero, List.set_cons_succ, i64_w, i32_w]
         rfl
        refine pure_ (i := 11) (N := some 38) (v := ?_) (a' := ?_) #[true, true, true, true, true, true, true, true, true, true, true, true, false] rfl rfl (any_of HT_.out (by kernel_rfl)) (fun _ _ _ h => h) (Or.inl ⟨by rfl, ?_⟩) ?_ ?_
        rotate_left
        ·intro w'
         go_simp
         with_reducible rfl
        rotate_left
        ·simp only [Act.put, List.setIfInBounds_toArray, List.set_cons_zero, List.set_cons_succ, i64_w, i32_w]
         rfl
        refine pure_ (i := 12) (N := some 39) (v := ?_) (a' := ?_) #[true, true, true, true, true, true, true, true, true, true, true, true, true] rfl rfl (any_of HT_.out (by kernel_rfl)) (fun _ _ _ h => h) (Or.inl ⟨by rfl, ?_⟩) ?_ ?_
        rotate_left
        ·intro w'
         go_simp
         with_reducible rfl
        rotate_left
        ·simp only [Act.put, List.setIfInBounds_toArray, List.set_cons_zero, List.set_cons_succ, i64_w, i32_w]
         rfl
        refine done_ (done_of HT_.out (by kernel_rfl)) ?_
        try go_wp2
        have n0_ := Aside0.mk (Kd.R_drew HO_338001.out)
        have n1_ := Aside0.mk (Kd.R_drew HO_339001.out)
        have n2_ := Aside0.mk (blk_drew BK329.out)
        have n3_ := Aside0.mk (blk_drew BK330.out)
        have n4_ := Aside0.mk (blk_drew BK331.out)
        have n5_ := Aside0.mk (blk_drew BK337.out)
        have n6_ := Aside0.mk (blk_drew BK338.out)
        have n7_ := Aside0.mk (below_drew1 HB.out)
        clear HO_338001
        clear HO_339001
        clear BK329
        clear BK330
        clear BK331
        clear BK337
        clear BK338
        clear HB
        have HO_338001 := n0_
        have HO_339001 := n1_
        have BK329 := n2_
        have BK330 := n3_
        have BK331 := n4_
        have BK337 := n5_
        have BK338 := n6_
        have HB := n7_
        clear n0_ n1_ n2_ n3_ n4_ n5_ n6_ n7_
        have p351 : 0 ≤ (x9_1 : Int) := of_decide_eq_true (by first | (with_reducible assumption) | assumption)
        have q351 : x9_1 < (t333.length : Int) := of_decide_eq_true (by first | (with_reducible assumption) | assumption)
        obtain ⟨ad351, e351, hx351_0, hx351_1⟩ := at_T64 (Kd.R_reads' HO_338001.out).2.2 x9_1 p351 q351
        obtain rfl : ad343 = ad351 := (by injection e351)
        replace p351 := eq_true p351
        replace q351 := eq_true q351
        refine start_ (n := 11) (S := fun w' => w'.cell? ⟨gb338, 0, none⟩ = some (.int .i64 a0_0) ∧ w'.cell? ⟨gb338, 1, none⟩ = some (u339001) ∧ w'.cell? ⟨gb337, 0, none⟩ = some (.int .i64 t332) ∧ w'.cell? ⟨gb337, 1, none⟩ = some (.slice (some ad343) t333.length co18) ∧ w'.cell? (ad343.add ((x9_1).toNat * 2)) = some (.int .i64 ((rd_T64 t333 x9_1).f0)) ∧ w'.cell? ⟨(ad343.add ((x9_1).toNat * 2)).block, (ad343.add ((x9_1).toNat * 2)).off + 1, none⟩ = some (.string ((rd_T64 t333 x9_1).f1))) (ds := [8, 10]) #[false, false, false, false, false, false, false, false, false, false, false] (by kernel_rfl) rfl rfl ⟨(blk_cell BK338.out 0).trans rfl, (blk_cell BK338.out 1).trans rfl, (blk_cell BK337.out 0).trans rfl, (blk_cell BK337.out 1).trans rfl, hx351_0, hx351_1⟩ (fun hHeld => ?_); refine with_tabW rootcellarref9_with.tab10 rootcellarref9_with.bits10 (fun HT_ HW_ => ?_)
        generalize w71.drew = w72 at HO_338001 HO_339001 BK329 BK330 BK331 BK337 BK338 HB hx351_0 hx351_1 hHeld ⊢
        refine pure_ (i := 0) (N := some 46) (v := ?_) (a' := ?_) #[true, false, false, false, false, false, false, false, false, false, false] rfl rfl (any_of HT_.out (by kernel_rfl)) (fun _ _ _ h => h) (Or.inl ⟨by rfl, ?_⟩) ?_ ?_
        rotate_left
        ·intro w'
         go_simp
         with_reducible rfl
        rotate_left
        ·simp only [Act.put, List.setIfInBounds_toArray, List.set_cons_zero, List.set_cons_succ, i64_w, i32_w]
         rfl
        refine pure_ (i := 2) (N := some 48) (v := ?_) (a' := ?_) #[true, false, true, false, false, false, false, false, false, false, false] rfl rfl (any_of HT_.out (by kernel_rfl)) (fun _ _ _ h => h) (Or.inl ⟨by rfl, ?_⟩) ?_ ?_
        rotate_left
        ·intro w'
         go_simp
         with_reducible rfl
        rotate_left
        ·simp only [Act.put, List.setIfInBounds_toArray, List.set_cons_zero, List.set_cons_succ, i64_w, i32_w]
         rfl
        refine pure_ (i := 4) (N := some 50) (v := ?_) (a' := ?_) #[true, false, true, false, true, false, false, false, false, false, false] rfl rfl (any_of HT_.out (by kernel_rfl)) (fun _ _ _ h => h) (Or.inl ⟨by rfl, ?_⟩) ?_ ?_
        rotate_left
        ·intro w'
         go_simp
         with_reducible rfl
        rotate_left
        ·simp only [Act.put, List.setIfInBounds_toArray, List.set_cons_zero, List.set_cons_succ, i64_w, i32_w]
         rfl
        refine take_ (i := 1) (N := some 47) (v := ?_) (a' := ?_) #[true, true, true, false, true, false, false, false, false, false, false] rfl rfl (take_ofW HT_.out HW_.out (by kernel_rfl)) (fun _ _ _ h => h) (Or.inl ⟨by rfl, ?_⟩) hHeld ?_ ?_
        rotate_left
        ·rintro w' ⟨s0, s1, s2, s3, s4, s5⟩
         go_simp
         with_reducible rfl
        rotate_left
        ·simp only [Act.put, List.setIfInBounds_toArray, List.set_cons_zero, List.set_cons_succ, i64_w, i32_w]
         rfl
        refine take_ (i := 3) (N := some 49) (v := ?_) (a' := ?_) #[true, true, true, true, true, false, false, false, false, false, false] rfl rfl (take_ofW HT_.out HW_.out (by kernel_rfl)) (fun _ _ _ h => h) (Or.inl ⟨by rfl, ?_⟩) hHeld ?_ ?_
        rotate_left
        ·rintro w' ⟨s0, s1, s2, s3, s4, s5⟩
         go_simp
         with_reducible rfl
        rotate_left
        ·simp only [Act.put, List.setIfInBounds_toArray, List.set_cons_zero, List.set_cons_succ, i64_w, i32_w]
         rfl
        refine pure_ (i := 5) (N := some 51) (v := ?_) (a' := ?_) #[true, true, true, true, true, true, false, false, false, false, false] rfl rfl (any_of HT_.out (by kernel_rfl)) (fun _ _ _ h => h) (Or.inl ⟨by rfl, ?_⟩) ?_ ?_
        rotate_left
        ·intro w'
         go_simp
         with_reducible rfl
        rotate_left
        ·simp only [Act.put, List.setIfInBounds_toArray, List.set_cons_zero, List.set_cons_succ, i64_w, i32_w]
         rfl
        refine take_ (i := 6) (N := some 52) (v := ?_) (a' := ?_) #[true, true, true, true, true, true, true, false, false, false, false] rfl rfl (take_ofW HT_.out HW_.out (by kernel_rfl)) (fun _ _ _ h => h) (Or.inl ⟨by rfl, ?_⟩) hHeld ?_ ?_
        rotate_left
        ·rintro w' ⟨s0, s1, s2, s3, s4, s5⟩
         go_simp
         with_reducible rfl
        rotate_left
        ·simp only [Act.put, List.setIfInBounds_toArray, List.set_cons_zero, List.set_cons_succ, i64_w, i32_w]
         rfl
        refine one_ (i := 7) (N := some 53) #[true, true, true, true, true, true, true, true, false, false, false] rfl rfl (one_of HT_.out (by kernel_rfl)) (by decide) (fun K hK => ?_)
        refine value_ (w1 := ?_) (v := ?_) (by rfl) rfl ?_ ?_
        rotate_left 2
        ·go_simp
         constructor
         ·rfl
         ·rfl
        refine hK.out _ _ ⟨(blk_cell (blk_alloc BK338.out _) 0).trans rfl, (blk_cell (blk_alloc BK338.out _) 1).trans rfl, (blk_cell (blk_alloc BK337.out _) 0).trans rfl, (blk_cell (blk_alloc BK337.out _) 1).trans rfl, (World.cell?_alloc_lt _ _ _ (World.block_lt_of_cell? _ _ (hHeld.2.2.2.2.1))).trans (hHeld.2.2.2.2.1), (World.cell?_alloc_lt _ _ _ (World.block_lt_of_cell? _ _ (hHeld.2.2.2.2.2))).trans (hHeld.2.2.2.2.2)⟩ (fun hHeld => ?_)
        clear hK K
        refine norm_ (a' := ?_) ?_ ?_
        rotate_left
        ·show Act.put _ (some 53) _ = _
         simp only [Act.put, List.setIfInBounds_toArray, List.set_cons_zero, List.set_cons_succ, i64_w, i32_w]
         rfl
        refine last_ (i := 8) (N := some 54) #[true, true, true, true, true, true, true, true, true, false, false] rfl rfl (one_of HT_.out (by kernel_rfl)) (by decide) (fun K hK => ?_)
        refine Kd.R_append_step k64 (w0 := w) w.heap.size (by rfl) (.tmp 47) (.tmp 53) 41 64 (.agg #[(.int .i64 0), (.string ⟨#[]⟩)]) 24 rfl Try.underlying41 info64 rfl (by decide) (by omega) u339001 x339001_1 (⟨(rd_T64 t333 x9_1).f0, (rd_T64 t333 x9_1).f1⟩ : S64) [.int .i64 ((rd_T64 t333 x9_1).f0), .string ((rd_T64 t333 x9_1).f1)] (fun k_ => some k_ ≠ (.slice (some ad343) t333.length co18 : Value).ownBlock ∧ k_ ≠ gb330) (fun _ => False) rfl rfl ?aP (fun _ hk => hk.elim) ?aF ?aO ?aB ?aS ?aL ?_
        (case aP => exact k64_mkM _ _ _ (⟨(rd_T64 t333 x9_1).f0, (rd_T64 t333 x9_1).f1⟩ : S64))
        (case aB => exact (by repeat (first | (with_reducible first | exact HB.out | apply below_alloc | apply pw_below_drewN | apply below_drew1 | refine below_set ?_ GE329.out | refine below_set ?_ GE330.out | refine below_set ?_ GE331.out | refine below_set ?_ GE337.out | refine below_set ?_ GE338.out) | exact HB.out)))
        (case aF => exact (fun k_ hk => ⟨Kd.fresh' (Kd.R_lt (by (with_reducible repeat (first | apply Kd.R_alloc | apply Kd.R_drewN | apply Kd.R_drew)); exact HO_338001.out)) k_ hk, Kd.freshB (g := gb330) (o := .cells #[.int .i64 a1_0, .string a1_1] 64 (0, 0)) (by (with_reducible repeat (first | refine blk_drewN ?_ _ | refine blk_drew ?_ | refine blk_alloc ?_ _)); exact BK330.out) k_ hk⟩))
        (case aO => exact (by (with_reducible repeat (first | apply Kd.R_alloc | apply Kd.R_drewN | apply Kd.R_drew)); exact HO_339001.out))
        (case aS => exact (below_size (by repeat (first | (with_reducible first | exact HB.out | apply below_alloc | apply pw_below_drewN | apply below_drew1 | refine below_set ?_ GE329.out | refine below_set ?_ GE330.out | refine below_set ?_ GE331.out | refine below_set ?_ GE337.out | refine below_set ?_ GE338.out) | exact HB.out))))
        (case aL => have := LMc65.out; omega)
        intro v353 w73 ho hb hg hat
        rw [← Ny352.out] at ho
        have n0_ := Aside0.mk (Kd.R_after (ok := (fun k_ => k_ ≠ gb330)) (by (with_reducible repeat (first | apply Kd.R_alloc | apply Kd.R_drewN | apply Kd.R_drew)); exact Kd.R_mono HO_338001.out (fun _ hk => ⟨hk.2, hk.1⟩)) hg hat)
        have n1_ := Aside0.mk (blk_grown (g := gb329) (o := .cells #[.int .i64 a0_0, .slice A0_1 l0_1.length c0_1] 43 (0, 0)) (by (with_reducible repeat (first | refine blk_drewN ?_ _ | refine blk_drew ?_ | refine blk_alloc ?_ _)); exact BK329.out) hg (Kd.R_ne HO_339001.out BK329.out (by decide)))
        have n2_ := Aside0.mk (blk_grown (g := gb330) (o := .cells #[.int .i64 a1_0, .string a1_1] 64 (0, 0)) (by (with_reducible repeat (first | refine blk_drewN ?_ _ | refine blk_drew ?_ | refine blk_alloc ?_ _)); exact BK330.out) hg (Kd.R_away HO_339001.out (fun _ hk => hk.2)))
        have n3_ := Aside0.mk (blk_grown (g := gb331) (o := .cells #[.int .i64 0, .slice none 0 0] 43 (0, 0)) (by (with_reducible repeat (first | refine blk_drewN ?_ _ | refine blk_drew ?_ | refine blk_alloc ?_ _)); exact BK331.out) hg (Kd.R_ne HO_339001.out BK331.out (by decide)))
        have n4_ := Aside0.mk (blk_grown (g := gb337) (o := .cells #[.int .i64 t332, .slice (some ad343) t333.length co18] 43 (0, 0)) (by (with_reducible repeat (first | refine blk_drewN ?_ _ | refine blk_drew ?_ | refine blk_alloc ?_ _)); exact BK337.out) hg (Kd.R_ne HO_339001.out BK337.out (by decide)))
        have n5_ := Aside0.mk (blk_grown (g := gb338) (o := .cells #[.int .i64 a0_0, u339001] 43 (0, 0)) (by (with_reducible repeat (first | refine blk_drewN ?_ _ | refine blk_drew ?_ | refine blk_alloc ?_ _)); exact BK338.out) hg (Kd.R_ne HO_339001.out BK338.out (by decide)))
        have n6_ := Aside0.mk (hb)
        have n7_ := Aside0.mk (ho)
        clear HO_338001
        clear BK329
        clear BK330
        clear BK331
        clear BK337
        clear BK338
        clear HB
        clear HO_339001
        have HO_338001 := n0_
        have BK329 := n1_
        have BK330 := n2_
        have BK331 := n3_
        have BK337 := n4_
        have BK338 := n5_
        have HB := n6_
        have HO354 := n7_
        clear n0_ n1_ n2_ n3_ n4_ n5_ n6_ n7_
        clear ho hb hg hat
        obtain ⟨Ao74, co74, eo74⟩ := Kd.R_slice HO354.out
        (first | subst eo74 | (injection eo74 with f1_ f2_ f3_; have f4_ := f1_.symm; have f5_ := f3_.symm; clear f1_ f2_ f3_; subst f4_; subst f5_))
        refine hK.out _ _ ?_
        clear hK K
        refine norm_ (a' := ?_) ?_ ?_
        rotate_left
        ·show Act.put _ (some 54) _ = _
         simp only [Act.put, List.setIfInBounds_toArray, List.set_cons_zero, List.set_cons_succ, i64_w, i32_w]
         rfl
        refine pure_ (i := 9) (N := some 55) (v := ?_) (a' := ?_) #[true, true, true, true, true, true, true, true, true, true, false] rfl rfl (any_of HT_.out (by kernel_rfl)) (fun _ _ _ h => h) (Or.inl ⟨by rfl, ?_⟩) ?_ ?_
        rotate_left
        ·intro w'
         go_simp
         with_reducible rfl
        rotate_left
        ·simp only [Act.put, List.setIfInBounds_toArray, List.set_cons_zero, List.set_cons_succ, i64_w, i32_w]
         rfl
        refine last_ (i := 10) (N := none) #[true, true, true, true, true, true, true, true, true, true, true] rfl rfl (one_of HT_.out (by kernel_rfl)) (by decide) (fun K hK => ?_)
        have hs75 : w73.cell? ⟨gb338, 1, none⟩ = some (u339001) := (blk_cell BK338.out 1).trans rfl
        have hfs75 := blk_frozen BK338.out 1
        have hns75_0 := NB329_338.out
        have hns75_1 := NB330_338.out
        have hns75_2 := NB331_338.out
        have hns75_3 := NB337_338.out
        have hms75_0 := NB338_329.out
        have hms75_1 := NB338_330.out
        have hms75_2 := NB338_331.out
        have hms75_3 := NB338_337.out
        refine skip_ (w1 := ?_) (by rfl) rfl ?_ ?_
        rotate_left
        ·go_simp
         rfl
        refine hK.out _ _ ?_
        clear hK K
        refine done_ (done_of HT_.out (by kernel_rfl)) ?_
        try go_wp2
        go_roundg k1
        case measure => have := HK1.out; omega
        case rel => exact ⟨(false), (wrap64 (x9_1 + 1)), (y352), (.slice Ao74 y352.length co74), (by first | rfl | (simp; done) | (simp [*]; done)), (by first | rfl | (simp; done) | (simp [*]; done)), H', ⟨by have := HK1.out; omega⟩, ⟨by (with_reducible repeat (first | apply Kd.R_alloc | apply Kd.R_drewN | apply Kd.R_drew)); exact Kd.R_mono (Kd.R_far (p := ⟨gb338, 1, none⟩) (Kd.R_types HO_338001.out BK338.out (by decide)) (fun _ hk => hk.2) (.slice Ao74 y352.length co74)) (fun _ hk => ⟨hk.1.2, hk.1.1⟩)⟩, ⟨by (with_reducible repeat (first | apply Kd.R_alloc | apply Kd.R_drewN | apply Kd.R_drew)); exact Kd.R_mono (Kd.R_far (p := ⟨gb338, 1, none⟩) (Kd.R_types HO354.out BK338.out (by decide)) (fun _ hk => hk.2) (.slice Ao74 y352.length co74)) (fun _ hk => ⟨hk.1.1, hk.1.2⟩)⟩, ⟨by (with_reducible repeat (first | refine blk_drewN ?_ _ | refine blk_drew ?_ | refine blk_alloc ?_ _)); refine blk_far ?_ NB329_338.out _; (with_reducible repeat (first | refine blk_drewN ?_ _ | refine blk_drew ?_ | refine blk_alloc ?_ _)); exact BK329.out⟩, ⟨by (with_reducible repeat (first | refine blk_drewN ?_ _ | refine blk_drew ?_ | refine blk_alloc ?_ _)); refine blk_far ?_ NB330_338.out _; (with_reducible repeat (first | refine blk_drewN ?_ _ | refine blk_drew ?_ | refine blk_alloc ?_ _)); exact BK330.out⟩, ⟨by (with_reducible repeat (first | refine blk_drewN ?_ _ | refine blk_drew ?_ | refine blk_alloc ?_ _)); refine blk_far ?_ NB331_338.out _; (with_reducible repeat (first | refine blk_drewN ?_ _ | refine blk_drew ?_ | refine blk_alloc ?_ _)); exact BK331.out⟩, ⟨by (with_reducible repeat (first | refine blk_drewN ?_ _ | refine blk_drew ?_ | refine blk_alloc ?_ _)); refine blk_far ?_ NB337_338.out _; (with_reducible repeat (first | refine blk_drewN ?_ _ | refine blk_drew ?_ | refine blk_alloc ?_ _)); exact BK337.out⟩, ⟨by (with_reducible repeat (first | refine blk_drewN ?_ _ | refine blk_drew ?_ | refine blk_alloc ?_ _)); refine blk_put (cs := #[.int .i64 a0_0, u339001]) ?_ 1 _ rfl; (with_reducible repeat (first | refine blk_drewN ?_ _ | refine blk_drew ?_ | refine blk_alloc ?_ _)); exact BK338.out⟩, ⟨by repeat (first | (with_reducible first | exact HB.out | apply below_alloc | apply pw_below_drewN | apply below_drew1 | refine below_set ?_ GE329.out | refine below_set ?_ GE330.out | refine below_set ?_ GE331.out | refine below_set ?_ GE337.out | refine below_set ?_ GE338.out) | exact HB.out)⟩⟩
       ·rw [if_neg c65] at H
        exact absurd H (by simp)
     ·rw [if_neg c40] at H
      exact absurd H (by simp)
   ·rw [if_neg c26] at H
    have c26b0 : decide (x9_1 < (t333.length : Int)) = false := decide_eq_false c26
    clear c26
    by_cases c76 : x8_1 = true
    ·subst c76
     have H1 : (some (a0_0, x339001_1)) = some (r1, r2) := by rw [if_pos rfl] at H; exact H
     clear H
     have H := H1
     clear H1
     simp only [Option.some.injEq, Prod.mk.injEq] at H
     obtain ⟨rfl, rfl⟩ := H
     have hnb77 := NB337_329.out
     have hnc77 := NB329_337.out
     have hnb78 := NB337_330.out
     have hnc78 := NB330_337.out
     have hnb79 := NB337_331.out
     have hnc79 := NB331_337.out
     have hnb80 := NB337_338.out
     have hnc80 := NB338_337.out
     have hcz81_0 : wr.cell? ⟨gb337, 0, none⟩ = some (.int .i64 t332) := (blk_cell BK337.out 0).trans rfl
     have hcz81_1 : wr.cell? ⟨gb337, 1, none⟩ = some (.slice Ao18 t333.length co18) := (blk_cell BK337.out 1).trans rfl
     have hfz81_0 := blk_frozen BK337.out 0
     have hfz81_1 := blk_frozen BK337.out 1
     have hnb82 := NB338_329.out
     have hnc82 := NB329_338.out
     have hnb83 := NB338_330.out
     have hnc83 := NB330_338.out
     have hnb84 := NB338_331.out
     have hnc84 := NB331_338.out
     have hcz85_0 : wr.cell? ⟨gb338, 0, none⟩ = some (.int .i64 a0_0) := (blk_cell BK338.out 0).trans rfl
     have hcz85_1 : wr.cell? ⟨gb338, 1, none⟩ = some (u339001) := (blk_cell BK338.out 1).trans rfl
     have hfz85_0 := blk_frozen BK338.out 0
     have hfz85_1 := blk_frozen BK338.out 1
     have hnb86 := NB331_329.out
     have hnc86 := NB329_331.out
     have hnb87 := NB331_330.out
     have hnc87 := NB330_331.out
     have hcz88_0 : wr.cell? ⟨gb331, 0, none⟩ = some (.int .i64 0) := (blk_cell BK331.out 0).trans rfl
     have hcz88_1 : wr.cell? ⟨gb331, 1, none⟩ = some (.slice none 0 0) := (blk_cell BK331.out 1).trans rfl
     have hfz88_0 := blk_frozen BK331.out 0
     have hfz88_1 := blk_frozen BK331.out 1
     obtain ⟨Ao89, co89, eo89⟩ := Kd.R_slice HO_339001.out
     subst eo89
     go_wp2
     refine bodyPost_ret (results_cell_row rfl _ _ gb331 43 #[.int .i64 a0_0, .slice Ao89 x339001_1.length co89] (0, 0) _ rfl (by (with_reducible repeat (first | refine blk_drewN ?_ _ | refine blk_drew ?_ | refine blk_alloc ?_ _)); refine blk_put (cs := #[.int .i64 a0_0, .slice none 0 0]) ?_ 1 _ rfl; (with_reducible repeat (first | refine blk_drewN ?_ _ | refine blk_drew ?_ | refine blk_alloc ?_ _)); refine blk_put (cs := #[.int .i64 0, .slice none 0 0]) ?_ 0 _ rfl; (with_reducible repeat (first | refine blk_drewN ?_ _ | refine blk_drew ?_ | refine blk_alloc ?_ _)); exact BK331.out) Try.underlying43 rfl (by kernel_rfl)) rfl ?_
     exact ⟨_, by first | rfl | (simp [errW_none, errW_some] <;> rfl) | (simp [*, errW_none, errW_some] <;> rfl), by (with_reducible repeat (first | apply Kd.R_alloc | apply Kd.R_drewN | apply Kd.R_drew)); exact Kd.R_mono (Kd.R_far (p := ⟨gb331, 1, none⟩) (Kd.R_far (p := ⟨gb331, 0, none⟩) (Kd.R_types HO_339001.out BK331.out (by decide)) (fun _ hk => hk.2) (.int .i64 a0_0)) (fun _ hk => hk.2) (.slice Ao89 x339001_1.length co89)) (fun _ hk => trivial), by repeat (first | (with_reducible first | exact HB.out | apply below_alloc | apply pw_below_drewN | apply below_drew1 | refine below_set ?_ GE329.out | refine below_set ?_ GE330.out | refine below_set ?_ GE331.out | refine below_set ?_ GE337.out | refine below_set ?_ GE338.out) | exact HB.out)⟩
    ·replace c76 := Bool.eq_false_iff.mpr c76
     subst c76
     have H1 : (if x339001_1.length < 5864062014805 then (some (a0_0, (x339001_1 ++ [(⟨a1_0, a1_1⟩ : S64)]))) else (none)) = some (r1, r2) := by rw [if_neg (show ¬ (false = true) by decide)] at H; exact H
     clear H
     have H := H1
     clear H1
     by_cases c90 : x339001_1.length < 5864062014805
     ·rw [if_pos c90] at H
      have LMc90 := Aside0.mk c90
      clear c90
      obtain ⟨y355, hy355⟩ : ∃ y_ : List (S64), y_ = (x339001_1 ++ [(⟨a1_0, a1_1⟩ : S64)]) := ⟨_, rfl⟩
      replace H : (some (a0_0, y355)) = some (r1, r2) := by first | (rw [hy355]; with_reducible exact H) | (have H2_ := (Option.bind_some _ _).symm.trans H; rw [hy355]; with_reducible exact H2_) | (have H2_ := (Option.bind_some _ _).symm.trans H; with_reducible exact H2_) | with_reducible exact H | (rw [hy355]; exact H) | exact H
      have Ny355 := Aside0.mk hy355
      clear hy355
      simp only [Option.some.injEq, Prod.mk.injEq] at H
      obtain ⟨rfl, rfl⟩ := H
      have hnb91 := NB337_329.out
      have hnc91 := NB329_337.out
      have hnb92 := NB337_330.out
      have hnc92 := NB330_337.out
      have hnb93 := NB337_331.out
      have hnc93 := NB331_337.out
      have hnb94 := NB337_338.out
      have hnc94 := NB338_337.out
      have hcz95_0 : wr.cell? ⟨gb337, 0, none⟩ = some (.int .i64 t332) := (blk_cell BK337.out 0).trans rfl
      have hcz95_1 : wr.cell? ⟨gb337, 1, none⟩ = some (.slice Ao18 t333.length co18) := (blk_cell BK337.out 1).trans rfl
      have hfz95_0 := blk_frozen BK337.out 0
      have hfz95_1 := blk_frozen BK337.out 1
      have hnb96 := NB338_329.out
      have hnc96 := NB329_338.out
      have hnb97 := NB338_330.out
      have hnc97 := NB330_338.out
      have hnb98 := NB338_331.out
      have hnc98 := NB331_338.out
      have hcz99_0 : wr.cell? ⟨gb338, 0, none⟩ = some (.int .i64 a0_0) := (blk_cell BK338.out 0).trans rfl
      have hcz99_1 : wr.cell? ⟨gb338, 1, none⟩ = some (u339001) := (blk_cell BK338.out 1).trans rfl
      have hfz99_0 := blk_frozen BK338.out 0
      have hfz99_1 := blk_frozen BK338.out 1
      have hnb100 := NB330_329.out
      have hnc100 := NB329_330.out
      have hnb101 := NB330_331.out
      have hnc101 := NB331_330.out
      have hcz102_0 : wr.cell? ⟨gb330, 0, none⟩ = some (.int .i64 a1_0) := (blk_cell BK330.out 0).trans rfl
      have hcz102_1 : wr.cell? ⟨gb330, 1, none⟩ = some (.string a1_1) := (blk_cell BK330.out 1).trans rfl
      have hfz102_0 := blk_frozen BK330.out 0
      have hfz102_1 := blk_frozen BK330.out 1
      go_wp2_with (first | ((with_reducible refine gate_builtin (b := .append) (xs := #[.tmp 59, .tmp 61]) rfl ?_); at_builtin; refine Kd.R_append k64 (w0 := w) w.heap.size rfl (.tmp 59) (.tmp 61) 41 64 (.agg #[(.int .i64 0), (.string ⟨#[]⟩)]) 24 rfl Try.underlying41 info64 rfl (by decide) (by omega) u339001 x339001_1 (⟨a1_0, a1_1⟩ : S64) [.int .i64 a1_0, .string a1_1] (fun k_ => some k_ ≠ (.slice Ao18 t333.length co18 : Value).ownBlock ∧ k_ ≠ gb330) (fun _ => False) rfl rfl ?aP (fun _ hk => hk.elim) ?aF ?aO ?aB ?aS ?aL ?_; (case aP => exact k64_mkM _ _ _ (⟨a1_0, a1_1⟩ : S64)); (case aB => exact (by repeat (first | (with_reducible first | exact HB.out | apply below_alloc | apply pw_below_drewN | apply below_drew1 | refine below_set ?_ GE329.out | refine below_set ?_ GE330.out | refine below_set ?_ GE331.out | refine below_set ?_ GE337.out | refine below_set ?_ GE338.out) | exact HB.out))); (case aF => exact (fun k_ hk => ⟨Kd.fresh' (Kd.R_lt (by (with_reducible repeat (first | apply Kd.R_alloc | apply Kd.R_drewN | apply Kd.R_drew)); exact HO_338001.out)) k_ hk, Kd.freshB (g := gb330) (o := .cells #[.int .i64 a1_0, .string a1_1] 64 (0, 0)) (by (with_reducible repeat (first | refine blk_drewN ?_ _ | refine blk_drew ?_ | refine blk_alloc ?_ _)); exact BK330.out) k_ hk⟩)); (case aO => exact (by (with_reducible repeat (first | apply Kd.R_alloc | apply Kd.R_drewN | apply Kd.R_drew)); exact HO_339001.out)); (case aS => exact (below_size (by repeat (first | (with_reducible first | exact HB.out | apply below_alloc | apply pw_below_drewN | apply below_drew1 | refine below_set ?_ GE329.out | refine below_set ?_ GE330.out | refine below_set ?_ GE331.out | refine below_set ?_ GE337.out | refine below_set ?_ GE338.out) | exact HB.out)))); (case aL => have := LMc90.out; omega); intro v356 w103 ho hb hg hat; rw [← Ny355.out] at ho; have n0_ := Aside0.mk (Kd.R_after (ok := (fun k_ => k_ ≠ gb330)) (by (with_reducible repeat (first | apply Kd.R_alloc | apply Kd.R_drewN | apply Kd.R_drew)); exact Kd.R_mono HO_338001.out (fun _ hk => ⟨hk.2, hk.1⟩)) hg hat); have n1_ := Aside0.mk (blk_grown (g := gb329) (o := .cells #[.int .i64 a0_0, .slice A0_1 l0_1.length c0_1] 43 (0, 0)) (by (with_reducible repeat (first | refine blk_drewN ?_ _ | refine blk_drew ?_ | refine blk_alloc ?_ _)); exact BK329.out) hg (Kd.R_ne HO_339001.out BK329.out (by decide))); have n2_ := Aside0.mk (blk_grown (g := gb330) (o := .cells #[.int .i64 a1_0, .string a1_1] 64 (0, 0)) (by (with_reducible repeat (first | refine blk_drewN ?_ _ | refine blk_drew ?_ | refine blk_alloc ?_ _)); exact BK330.out) hg (Kd.R_away HO_339001.out (fun _ hk => hk.2))); have n3_ := Aside0.mk (blk_grown (g := gb331) (o := .cells #[.int .i64 0, .slice none 0 0] 43 (0, 0)) (by (with_reducible repeat (first | refine blk_drewN ?_ _ | refine blk_drew ?_ | refine blk_alloc ?_ _)); exact BK331.out) hg (Kd.R_ne HO_339001.out BK331.out (by decide))); have n4_ := Aside0.mk (blk_grown (g := gb337) (o := .cells #[.int .i64 t332, .slice Ao18 t333.length co18] 43 (0, 0)) (by (with_reducible repeat (first | refine blk_drewN ?_ _ | refine blk_drew ?_ | refine blk_alloc ?_ _)); exact BK337.out) hg (Kd.R_ne HO_339001.out BK337.out (by decide))); have n5_ := Aside0.mk (blk_grown (g := gb338) (o := .cells #[.int .i64 a0_0, u339001] 43 (0, 0)) (by (with_reducible repeat (first | refine blk_drewN ?_ _ | refine blk_drew ?_ | refine blk_alloc ?_ _)); exact BK338.out) hg (Kd.R_ne HO_339001.out BK338.out (by decide))); have n6_ := Aside0.mk (hb); have n7_ := Aside0.mk (ho); clear HO_338001; clear BK329; clear BK330; clear BK331; clear BK337; clear BK338; clear HB; clear HO_339001; have HO_338001 := n0_; have BK329 := n1_; have BK330 := n2_; have BK331 := n3_; have BK337 := n4_; have BK338 := n5_; have HB := n6_; have HO357 := n7_; clear n0_ n1_ n2_ n3_ n4_ n5_ n6_ n7_; clear ho hb hg hat; obtain ⟨Ao104, co104, eo104⟩ := Kd.R_slice HO357.out; subst eo104; have hcz105_0 : w103.cell? ⟨gb338, 0, none⟩ = some (.int .i64 a0_0) := (blk_cell BK338.out 0).trans rfl; have hcz105_1 : w103.cell? ⟨gb338, 1, none⟩ = some (u339001) := (blk_cell BK338.out 1).trans rfl; have hfz105_0 := blk_frozen BK338.out 0; have hfz105_1 := blk_frozen BK338.out 1; have hnb106 := NB331_329.out; have hnc106 := NB329_331.out; have hcz107_0 : w103.cell? ⟨gb331, 0, none⟩ = some (.int .i64 0) := (blk_cell BK331.out 0).trans rfl; have hcz107_1 : w103.cell? ⟨gb331, 1, none⟩ = some (.slice none 0 0) := (blk_cell BK331.out 1).trans rfl; have hfz107_0 := blk_frozen BK331.out 0; have hfz107_1 := blk_frozen BK331.out 1))
      refine bodyPost_ret (results_cell_row rfl _ _ gb331 43 #[.int .i64 a0_0, .slice Ao104 y355.length co104] (0, 0) _ rfl (by (with_reducible repeat (first | refine blk_drewN ?_ _ | refine blk_drew ?_ | refine blk_alloc ?_ _)); refine blk_put (cs := #[.int .i64 a0_0, .slice none 0 0]) ?_ 1 _ rfl; (with_reducible repeat (first | refine blk_drewN ?_ _ | refine blk_drew ?_ | refine blk_alloc ?_ _)); refine blk_put (cs := #[.int .i64 0, .slice none 0 0]) ?_ 0 _ rfl; (with_reducible repeat (first | refine blk_drewN ?_ _ | refine blk_drew ?_ | refine blk_alloc ?_ _)); refine blk_far ?_ NB331_338.out _; (with_reducible repeat (first | refine blk_drewN ?_ _ | refine blk_drew ?_ | refine blk_alloc ?_ _)); exact BK331.out) Try.underlying43 rfl (by kernel_rfl)) rfl ?_
      exact ⟨_, by first | rfl | (simp [errW_none, errW_some] <;> rfl) | (simp [*, errW_none, errW_some] <;> rfl), by (with_reducible repeat (first | apply Kd.R_alloc | apply Kd.R_drewN | apply Kd.R_drew)); exact Kd.R_mono (Kd.R_far (p := ⟨gb331, 1, none⟩) (Kd.R_far (p := ⟨gb331, 0, none⟩) (Kd.R_far (p := ⟨gb338, 1, none⟩) (Kd.R_types (Kd.R_types HO357.out BK338.out (by decide)) BK331.out (by decide)) (fun _ hk => hk.1.2) (.slice Ao104 y355.length co104)) (fun _ hk => hk.2) (.int .i64 a0_0)) (fun _ hk => hk.2) (.slice Ao104 y355.length co104)) (fun _ hk => trivial), by repeat (first | (with_reducible first | exact HB.out | apply below_alloc | apply pw_below_drewN | apply below_drew1 | refine below_set ?_ GE329.out | refine below_set ?_ GE330.out | refine below_set ?_ GE331.out | refine below_set ?_ GE337.out | refine below_set ?_ GE338.out) | exact HB.out)⟩
     ·rw [if_neg c90] at H
      exact absurd H (by simp)

end Go.Proofs.Ytnjhgbhafpnclaa.Pr
