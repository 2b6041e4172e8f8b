-- Printed by a program of this session (wip/pr/hook.py) by way of the kit's printer; contracts of my own beside it.
import Derived.Test.YtbeloaccgmgocaaPrx0
import Derived.Test.YtbeloaccgmgocaaPrx1
import Derived.Test.YtbeloaccgmgocaaPrx3
import Derived.Test.YtbeloaccgmgocaaPrx4
import Derived.Test.YtbeloaccgmgocaaHCh
import Derived.Test.YtbeloaccgmgocaaHDrop
import Derived.Test.YtbeloaccgmgocaaHPut
import Derived.Test.YtbeloaccgmgocaaHShown11
namespace Go.Proofs.Ytbeloaccgmgocaa.Pr
open Go.RowKit Go.Proofs.YtbeloaccgmgocaaW.PrintWords Go.Proofs.YtbeloaccgmgocaaW.PrintLast Go.Proofs.YtbeloaccgmgocaaW.PrintMore
attribute [local go_sem] max2_int min2_int max_two min_two max_three min_three max_four min_four   -- for this text's walks alone
set_option linter.unusedVariables false
set_option linter.unusedSimpArgs false

/-! ### rootcellarlaw11_ChainMarks: function 8 -/
def rootcellarlaw11_ChainMarks.j0 : Nat → Int → Bool → Int → List (S32) → Bool → Option (Bool)
 | 0, _, _, _, _, _ => none
 | k + 1, x2, x7, x8, x9, x36 => if x36 = true then (some x7) else ((rootcellarlaw11_pick.f x2 x8).bind fun t241 => ((chain_Read.f x9 (x9.length : Int) t241).bind fun bt242 => ((cell_New.f x8).bind fun bt244 => ((rootcellarlaw11_cluster.f k 0).bind fun t250 => ((cell_Put.f bt244.1 bt244.2.1 t241 t250).bind fun bt251 => ((cell_Drop.f bt251.1 bt251.2.1 t241).bind fun bt257 => ((some (([] : List (S32)) : List (S32))).bind fun y263 => (if y263.length + x9.length < 2932031007402 then ((some (y263 ++ x9 : List (S32))).bind fun y266 => ((some (([(⟨wrap64 ((x9.length : Int) + 1), (x9.length : Int), (⟨bt251.1, bt251.2.1⟩ : S26)⟩ : S32)] : List (S32)) : List (S32))).bind fun y269 => (if y266.length + y269.length < 2932031007402 then ((chain_Read.f (y266 ++ y269) (wrap64 ((x9.length : Int) + 1)) t241).bind fun bt275 => ((some (([] : List (S32)) : List (S32))).bind fun y277 => (if y277.length + x9.length < 2932031007402 then ((some (y277 ++ x9 : List (S32))).bind fun y280 => ((some (([(⟨wrap64 ((x9.length : Int) + 1), (x9.length : Int), (⟨bt257.1, bt257.2.1⟩ : S26)⟩ : S32)] : List (S32)) : List (S32))).bind fun y283 => (if y280.length + y283.length < 2932031007402 then ((chain_Read.f (y280 ++ y283) (wrap64 ((x9.length : Int) + 1)) t241).bind fun bt289 => (if bt242.2 = 0 then (if bt251.2.2 = 0 then (if bt257.2.2 = 0 then (if bt275.2 = 0 then (if bt289.2 = 0 then ((rootcellarlaw11_cluster.f k 0).bind fun t291 => (if bt275.1.toList = t291.toList then (some (bt289.1.toList == bt242.1.toList)) else (none))) else (none)) else (none)) else (none)) else (none)) else (none))) else (none)))) else (none)))) else (none)))) else (none)))))))))
def rootcellarlaw11_ChainMarks.f (k : Nat) (a0 : Int) (l1 : List (List Int)) (a2 : Int) : Option (Bool) := (rootcellarlaw11_shown.f).bind fun t236 => ((rootcellarlaw11_pick.f a0 64).bind fun t237 => ((rootcellarlaw11_row.f k (wrap64 (1 + t237)) l1).bind fun t238 => (if t236 = true then (rootcellarlaw11_ChainMarks.j0 k a2 t236 (wrap64 (1 + t237)) t238 ((t238.length : Int) == 0)) else (none))))
theorem rootcellarlaw11_ChainMarks.mono_l : ∀ k, (∀ y0 y1 y2 y3 y4, LeO (rootcellarlaw11_ChainMarks.j0 k y0 y1 y2 y3 y4) (rootcellarlaw11_ChainMarks.j0 (k + 1) y0 y1 y2 y3 y4))
 | 0 => fun _ _ _ _ _ r h => by simp [rootcellarlaw11_ChainMarks.j0] at h
 | k + 1 => by
  have ih0 := rootcellarlaw11_ChainMarks.mono_l k
  ·intro y0 y1 y2 y3 y4
   unfold rootcellarlaw11_ChainMarks.j0
   repeat' first
   | (with_reducible exact ih0 _ _ _ _ _)
   | (with_reducible exact rootcellarlaw11_cluster.mono _ _)
   | (with_reducible exact rootcellarlaw11_row.mono _ _ _)
   | (with_reducible exact LeO.refl _)
   | (with_reducible exact LeO.none _)
   | (with_reducible refine LeO.ite ?_ ?_)
   | (with_reducible refine LeO.bind ?_ (fun _ => ?_))
   | exact ih0 _ _ _ _ _
   | exact rootcellarlaw11_cluster.mono _ _
   | exact rootcellarlaw11_row.mono _ _ _
   | exact LeO.none _
   | refine LeO.ite ?_ ?_
   | refine LeO.bind ?_ (fun _ => ?_)
theorem rootcellarlaw11_ChainMarks.mono : ∀ a0 a1 a2 k, LeO (rootcellarlaw11_ChainMarks.f k a0 a1 a2) (rootcellarlaw11_ChainMarks.f (k + 1) a0 a1 a2) := by
 intro a0 a1 a2 k
 have ih0 := rootcellarlaw11_ChainMarks.mono_l k
 unfold rootcellarlaw11_ChainMarks.f
 repeat' first
   | (with_reducible exact ih0 _ _ _ _ _)
   | (with_reducible exact rootcellarlaw11_cluster.mono _ _)
   | (with_reducible exact rootcellarlaw11_row.mono _ _ _)
   | (with_reducible exact LeO.refl _)
   | (with_reducible exact LeO.none _)
   | (with_reducible refine LeO.ite ?_ ?_)
   | (with_reducible refine LeO.bind ?_ (fun _ => ?_))
   | exact ih0 _ _ _ _ _
   | exact rootcellarlaw11_cluster.mono _ _
   | exact rootcellarlaw11_row.mono _ _ _
   | exact LeO.none _
   | refine LeO.ite ?_ ?_
   | refine LeO.bind ?_ (fun _ => ?_)
def rootcellarlaw11_ChainMarks.T10 : Bool × List (List Nat × List Nat) := (true, [([], []), ([], []), ([], []), ([0, 1, 2, 2], [0, 1, 2]), ([3], [3]), ([4], [4]), ([4], [4]), ([], []), ([7, 5, 3, 0, 1, 2, 3, 4, 5, 7], [5, 7]), ([6, 8, 0, 1, 2, 3, 4, 5, 6, 7, 8], [6])])
def rootcellarlaw11_ChainMarks.B10 : List Nat := [0, 0, 0, 7, 15, 31, 31, 0, 191, 511]
theorem rootcellarlaw11_ChainMarks.tab10 : rtab .any (opsOf Try.f8 10) = rootcellarlaw11_ChainMarks.T10 := by kernel_rfl
theorem rootcellarlaw11_ChainMarks.bits10 : waitsOk rootcellarlaw11_ChainMarks.T10.2 rootcellarlaw11_ChainMarks.B10 = true := by kernel_rfl
def rootcellarlaw11_ChainMarks.T12 : Bool × List (List Nat × List Nat) := (true, [([], []), ([], []), ([0, 1], [0, 1]), ([], []), ([3], [3]), ([], []), ([], []), ([4, 5, 6], [4, 5, 6]), ([7], [7]), ([2, 8, 2], [2, 8]), ([], []), ([10], [10]), ([], []), ([9, 11, 12, 9], [9, 11, 12]), ([13], [13]), ([14], [14]), ([14], [14]), ([15, 13, 0, 1, 2, 3, 4, 5, 6, 7, 8, 9, 10, 11, 12, 13, 14, 15], [15]), ([16, 17, 0, 1, 2, 3, 4, 5, 6, 7, 8, 9, 10, 11, 12, 13, 14, 15, 16, 17], [16])])
def rootcellarlaw11_ChainMarks.B12 : List Nat := [0, 0, 3, 0, 8, 0, 0, 120, 248, 511, 0, 1024, 0, 8191, 16383, 32767, 32767, 65535, 262143]
theorem rootcellarlaw11_ChainMarks.tab12 : rtab .any (opsOf Try.f8 12) = rootcellarlaw11_ChainMarks.T12 := by kernel_rfl
theorem rootcellarlaw11_ChainMarks.bits12 : waitsOk rootcellarlaw11_ChainMarks.T12.2 rootcellarlaw11_ChainMarks.B12 = true := by kernel_rfl
def rootcellarlaw11_ChainMarks.T13 : Bool × List (List Nat × List Nat) := (true, [([], []), ([], []), ([0, 1], [0, 1]), ([], []), ([3], [3]), ([], []), ([], []), ([4, 5, 6], [4, 5, 6]), ([7], [7]), ([2, 8, 2], [2, 8]), ([], []), ([10], [10]), ([], []), ([9, 11, 12, 9], [9, 11, 12]), ([13], [13]), ([14], [14]), ([14], [14]), ([15, 13, 0, 1, 2, 3, 4, 5, 6, 7, 8, 9, 10, 11, 12, 13, 14, 15], [15]), ([16, 17, 0, 1, 2, 3, 4, 5, 6, 7, 8, 9, 10, 11, 12, 13, 14, 15, 16, 17], [16])])
def rootcellarlaw11_ChainMarks.B13 : List Nat := [0, 0, 3, 0, 8, 0, 0, 120, 248, 511, 0, 1024, 0, 8191, 16383, 32767, 32767, 65535, 262143]
theorem rootcellarlaw11_ChainMarks.tab13 : rtab .any (opsOf Try.f8 13) = rootcellarlaw11_ChainMarks.T13 := by kernel_rfl
theorem rootcellarlaw11_ChainMarks.bits13 : waitsOk rootcellarlaw11_ChainMarks.T13.2 rootcellarlaw11_ChainMarks.B13 = true := by kernel_rfl
set_option maxHeartbeats 8000000 in
set_option maxRecDepth 100000 in
theorem rootcellarlaw11_ChainMarks.calls (k : Nat) (a0 : Int) (A1 : Option Addr) (c1 : Nat) (l1 : List (List Int)) (a2 : Int) (r : Bool) (w : World) (hr1 : Kd.C (Kd.slice 3 (Kd.int .i64)) w A1 l1.length l1) (hc1 : l1.length ≤ c1) (h : rootcellarlaw11_ChainMarks.f k a0 l1 a2 = some r) :
  Calls Try.prog 8 #[.int .i64 a0, .slice A1 l1.length c1, .int .i64 a2] w fun e w' => e = .returned (.bool r) ∧ Below w.heap.size w w' := by
 have hu26 := Try.underlying26
 have hu32 := Try.underlying32
 have HR1 := Aside0.mk hr1
 have HC1 := Aside0.mk hc1
 clear hr1 hc1
 have HB := Aside0.mk (Below.refl w.heap.size w)
 have H : ((rootcellarlaw11_shown.f).bind fun t236 => ((rootcellarlaw11_pick.f a0 64).bind fun t237 => ((rootcellarlaw11_row.f k (wrap64 (1 + t237)) l1).bind fun t238 => (if t236 = true then (rootcellarlaw11_ChainMarks.j0 k a2 t236 (wrap64 (1 + t237)) t238 ((t238.length : Int) == 0)) else (none))))) = some r := h
 clear h
 replace H := Option.bind_eq_some_iff.mp H
 obtain ⟨t236, A40, H⟩ := H
 replace H : ((rootcellarlaw11_pick.f a0 64).bind fun t237 => ((rootcellarlaw11_row.f k (wrap64 (1 + t237)) l1).bind fun t238 => (if t236 = true then (rootcellarlaw11_ChainMarks.j0 k a2 t236 (wrap64 (1 + t237)) t238 ((t238.length : Int) == 0)) else (none)))) = some r := H
 have A4 := Aside0.mk A40
 clear A40
 replace H := Option.bind_eq_some_iff.mp H
 obtain ⟨t237, A50, H⟩ := H
 replace H : ((rootcellarlaw11_row.f k (wrap64 (1 + t237)) l1).bind fun t238 => (if t236 = true then (rootcellarlaw11_ChainMarks.j0 k a2 t236 (wrap64 (1 + t237)) t238 ((t238.length : Int) == 0)) else (none))) = some r := H
 have A5 := Aside0.mk A50
 clear A50
 replace H := Option.bind_eq_some_iff.mp H
 obtain ⟨t238, A60, H⟩ := H
 replace H : (if t236 = true then (rootcellarlaw11_ChainMarks.j0 k a2 t236 (wrap64 (1 + t237)) t238 ((t238.length : Int) == 0)) else (none)) = some r := H
 have A6 := Aside0.mk A60
 clear A60
 have HC7 := Aside0.mk H
 clear H
 go_enter Try.func8, Try.ntmps8
 go_upto_region 4 with (first | ((with_reducible refine gate_callee (f := 9) rfl ?_); refine goesL_ (some 23) rfl rfl Try.func9 (by kernel_rfl) rfl #[] rfl (by (try simp only [List.map_toArray, List.map_cons, List.map_nil]); first | done | rfl | (simp only [List.length_drop, List.length_take]; rfl)) ?_; (with_reducible refine (rootcellarlaw11_shown.calls  t236 _ A4.out).mono ?_); rintro e w8 ⟨rfl, hb⟩; refine ⟨_, rfl, ?_⟩; have n0_ := Aside0.mk (below_step (by repeat (first | (with_reducible first | exact HB.out | apply below_alloc | apply pw_below_drewN | apply below_drew1) | exact HB.out)) hb); clear HB; have HB := n0_; clear n0_; (try clear hb); (try clear hb2); (try clear hk); (try clear hi)) | ((with_reducible refine gate_callee (f := 10) rfl ?_); refine goesL_ (some 25) rfl rfl Try.func10 (by kernel_rfl) rfl #[.int .i64 a0, .int .i64 64] rfl (by (try simp only [List.map_toArray, List.map_cons, List.map_nil]); first | done | rfl | (simp only [List.length_drop, List.length_take]; rfl)) ?_; (with_reducible refine (rootcellarlaw11_pick.calls a0 64 t237 _ A5.out).mono ?_); rintro e w' ⟨rfl, ⟨nd, rfl⟩⟩; refine ⟨_, rfl, ?_⟩) | ((with_reducible refine gate_callee (f := 15) rfl ?_); refine goesL_ (some 29) rfl rfl Try.func15 (by kernel_rfl) rfl #[.int .i64 (wrap64 (1 + t237)), .slice A1 l1.length c1] rfl (by (try simp only [List.map_toArray, List.map_cons, List.map_nil]); first | done | rfl | (simp only [List.length_drop, List.length_take]; rfl)) ?_; (with_reducible refine (rootcellarlaw11_row.calls k (wrap64 (1 + t237)) _ _ l1 t238 _ ?side1 ?side2 A6.out).mono ?_); (case side1 => repeat (first | exact (Kd.C_below HR1.out (by repeat (first | (with_reducible first | exact HB.out | apply below_alloc | apply pw_below_drewN | apply below_drew1) | exact HB.out))) | (with_reducible refine Kd.C_alloc ?_ _) | (with_reducible refine Kd.C_drewN ?_ _) | (with_reducible refine Kd.C_drew ?_))); (case side2 => exact HC1.out); rintro e w9 ⟨v239, rfl, ho0, hb⟩; refine ⟨_, rfl, ?_⟩; have n0_ := Aside0.mk (Kd.N_lower (Kd.N_mono (ok' := fun k_ => True) (Kd.S_N (Kd.S_bound ho0)) (fun k_ hk_ => trivial)) (below_size (by repeat (first | (with_reducible first | exact HB.out | apply below_alloc | apply pw_below_drewN | apply below_drew1) | exact HB.out)))); have n1_ := Aside0.mk (below_step (by repeat (first | (with_reducible first | exact HB.out | apply below_alloc | apply pw_below_drewN | apply below_drew1) | exact HB.out)) hb); clear HB; have HO240 := n0_; have HB := n1_; clear n0_ n1_; (try clear hb); (try clear hb2); (try clear hk); (try clear hi); (try clear ho0)))
 (try simp only [Act.put, List.setIfInBounds_toArray, List.set_cons_zero, List.set_cons_succ])
 go_cut [36] (fun v36 wc => ∃ (kq : Nat) (x36_6 : Bool), v36 = .bool x36_6 ∧ Aside0 (rootcellarlaw11_ChainMarks.j0 kq a2 t236 (wrap64 (1 + t237)) t238 x36_6 = some r) ∧ Aside0 (kq ≤ k) ∧ Aside0 (Kd.N k32 32 wc w.heap.size (fun _ => True) v239 t238) ∧ Aside0 (Below w.heap.size w wc))
 case first =>
  have H := HC7.out
  clear HC7
  by_cases c10 : t236 = true
  ·subst c10
   have H1 : (rootcellarlaw11_ChainMarks.j0 k a2 true (wrap64 (1 + t237)) t238 ((t238.length : Int) == 0)) = some r := by rw [if_pos rfl] at H; exact H
   clear H
   have H := H1
   clear H1
   have H' := Aside0.mk H
   clear H
   obtain ⟨Ao11, co11, eo11⟩ := Kd.N_slice HO240.out
   subst eo11
   go_wp2
   go_meet
   case rel => exact ⟨_, (((t238.length : Int) == 0)), (by first | rfl | (simp; done) | (simp [*]; done)), H', ⟨by first | omega | exact Nat.le_refl _⟩, ⟨by (with_reducible repeat (first | apply Kd.N_alloc | apply Kd.N_drewN | apply Kd.N_drew)); exact HO240.out⟩, ⟨by repeat (first | (with_reducible first | exact HB.out | apply below_alloc | apply pw_below_drewN | apply below_drew1) | exact HB.out)⟩⟩
  ·replace c10 := Bool.eq_false_iff.mpr c10
   subst c10
   have H1 : (none) = some r := by rw [if_neg (show ¬ (false = true) by decide)] at H; exact H
   clear H
   have H := H1
   clear H1
   exact absurd H (by simp)
 case rest =>
  clear HC7
  try clear c1
  try clear p2
  try clear p6
  try clear c8
  try clear c9
  try clear c10
  obtain ⟨kq, x36_6, rfl, HA, HJ6, HO_9, HB⟩ := hcut
  cases kq with
  | zero => exact absurd HA.out (by simp [rootcellarlaw11_ChainMarks.j0])
  | succ kj6 =>
   have H := HA.out
   clear HA
   simp only [rootcellarlaw11_ChainMarks.j0] at H
   by_cases c12 : x36_6 = true
   ·subst c12
    have H1 : (some t236) = some r := by rw [if_pos rfl] at H; exact H
    clear H
    have H := H1
    clear H1
    obtain rfl := Option.some.inj H
    go_wp2
    go_ret
    exact ⟨by first | rfl | (simp [errW_none, errW_some] <;> rfl) | (simp [*, errW_none, errW_some] <;> rfl), by repeat (first | (with_reducible first | exact HB.out | apply below_alloc | apply pw_below_drewN | apply below_drew1) | exact HB.out)⟩
   ·replace c12 := Bool.eq_false_iff.mpr c12
    subst c12
    have H1 : ((rootcellarlaw11_pick.f a2 (wrap64 (1 + t237))).bind fun t241 => ((chain_Read.f t238 (t238.length : Int) t241).bind fun bt242 => ((cell_New.f (wrap64 (1 + t237))).bind fun bt244 => ((rootcellarlaw11_cluster.f kj6 0).bind fun t250 => ((cell_Put.f bt244.1 bt244.2.1 t241 t250).bind fun bt251 => ((cell_Drop.f bt251.1 bt251.2.1 t241).bind fun bt257 => ((some (([] : List (S32)) : List (S32))).bind fun y263 => (if y263.length + t238.length < 2932031007402 then ((some (y263 ++ t238 : List (S32))).bind fun y266 => ((some (([(⟨wrap64 ((t238.length : Int) + 1), (t238.length : Int), (⟨bt251.1, bt251.2.1⟩ : S26)⟩ : S32)] : List (S32)) : List (S32))).bind fun y269 => (if y266.length + y269.length < 2932031007402 then ((chain_Read.f (y266 ++ y269) (wrap64 ((t238.length : Int) + 1)) t241).bind fun bt275 => ((some (([] : List (S32)) : List (S32))).bind fun y277 => (if y277.length + t238.length < 2932031007402 then ((some (y277 ++ t238 : List (S32))).bind fun y280 => ((some (([(⟨wrap64 ((t238.length : Int) + 1), (t238.length : Int), (⟨bt257.1, bt257.2.1⟩ : S26)⟩ : S32)] : List (S32)) : List (S32))).bind fun y283 => (if y280.length + y283.length < 2932031007402 then ((chain_Read.f (y280 ++ y283) (wrap64 ((t238.length : Int) + 1)) t241).bind fun bt289 => (if bt242.2 = 0 then (if bt251.2.2 = 0 then (if bt257.2.2 = 0 then (if bt275.2 = 0 then (if bt289.2 = 0 then ((rootcellarlaw11_cluster.f kj6 0).bind fun t291 => (if bt275.1.toList = t291.toList then (some (bt289.1.toList == bt242.1.toList)) else (none))) else (none)) else (none)) else (none)) else (none)) else (none))) else (none)))) else (none)))) else (none)))) else (none))))))))) = some r := by rw [if_neg (show ¬ (false = true) by decide)] at H; exact H
    clear H
    have H := H1
    clear H1
    replace H := Option.bind_eq_some_iff.mp H
    obtain ⟨t241, A130, H⟩ := H
    replace H : ((chain_Read.f t238 (t238.length : Int) t241).bind fun bt242 => ((cell_New.f (wrap64 (1 + t237))).bind fun bt244 => ((rootcellarlaw11_cluster.f kj6 0).bind fun t250 => ((cell_Put.f bt244.1 bt244.2.1 t241 t250).bind fun bt251 => ((cell_Drop.f bt251.1 bt251.2.1 t241).bind fun bt257 => ((some (([] : List (S32)) : List (S32))).bind fun y263 => (if y263.length + t238.length < 2932031007402 then ((some (y263 ++ t238 : List (S32))).bind fun y266 => ((some (([(⟨wrap64 ((t238.length : Int) + 1), (t238.length : Int), (⟨bt251.1, bt251.2.1⟩ : S26)⟩ : S32)] : List (S32)) : List (S32))).bind fun y269 => (if y266.length + y269.length < 2932031007402 then ((chain_Read.f (y266 ++ y269) (wrap64 ((t238.length : Int) + 1)) t241).bind fun bt275 => ((some (([] : List (S32)) : List (S32))).bind fun y277 => (if y277.length + t238.length < 2932031007402 then ((some (y277 ++ t238 : List (S32))).bind fun y280 => ((some (([(⟨wrap64 ((t238.length : Int) + 1), (t238.length : Int), (⟨bt257.1, bt257.2.1⟩ : S26)⟩ : S32)] : List (S32)) : List (S32))).bind fun y283 => (if y280.length + y283.length < 2932031007402 then ((chain_Read.f (y280 ++ y283) (wrap64 ((t238.length : Int) + 1)) t241).bind fun bt289 => (if bt242.2 = 0 then (if bt251.2.2 = 0 then (if bt257.2.2 = 0 then (if bt275.2 = 0 then (if bt289.2 = 0 then ((rootcellarlaw11_cluster.f kj6 0).bind fun t291 => (if bt275.1.toList = t291.toList then (some (bt289.1.toList == bt242.1.toList)) else (none))) else (none)) else (none)) else (none)) else (none)) else (none))) else (none)))) else (none)))) else (none)))) else (none)))))))) = some r := H
    have A13 := Aside0.mk A130
    clear A130
    replace H := Option.bind_eq_some_iff.mp H
    obtain ⟨⟨t242, t243⟩, A140, H⟩ := H
    replace H : ((cell_New.f (wrap64 (1 + t237))).bind fun bt244 => ((rootcellarlaw11_cluster.f kj6 0).bind fun t250 => ((cell_Put.f bt244.1 bt244.2.1 t241 t250).bind fun bt251 => ((cell_Drop.f bt251.1 bt251.2.1 t241).bind fun bt257 => ((some (([] : List (S32)) : List (S32))).bind fun y263 => (if y263.length + t238.length < 2932031007402 then ((some (y263 ++ t238 : List (S32))).bind fun y266 => ((some (([(⟨wrap64 ((t238.length : Int) + 1), (t238.length : Int), (⟨bt251.1, bt251.2.1⟩ : S26)⟩ : S32)] : List (S32)) : List (S32))).bind fun y269 => (if y266.length + y269.length < 2932031007402 then ((chain_Read.f (y266 ++ y269) (wrap64 ((t238.length : Int) + 1)) t241).bind fun bt275 => ((some (([] : List (S32)) : List (S32))).bind fun y277 => (if y277.length + t238.length < 2932031007402 then ((some (y277 ++ t238 : List (S32))).bind fun y280 => ((some (([(⟨wrap64 ((t238.length : Int) + 1), (t238.length : Int), (⟨bt257.1, bt257.2.1⟩ : S26)⟩ : S32)] : List (S32)) : List (S32))).bind fun y283 => (if y280.length + y283.length < 2932031007402 then ((chain_Read.f (y280 ++ y283) (wrap64 ((t238.length : Int) + 1)) t241).bind fun bt289 => (if t243 = 0 then (if bt251.2.2 = 0 then (if bt257.2.2 = 0 then (if bt275.2 = 0 then (if bt289.2 = 0 then ((rootcellarlaw11_cluster.f kj6 0).bind fun t291 => (if bt275.1.toList = t291.toList then (some (bt289.1.toList == t242.toList)) else (none))) else (none)) else (none)) else (none)) else (none)) else (none))) else (none)))) else (none)))) else (none)))) else (none))))))) = some r := H
    have A14 := Aside0.mk A140
    clear A140
    replace H := Option.bind_eq_some_iff.mp H
    obtain ⟨⟨t244, t245, t248⟩, A150, H⟩ := H
    replace H : ((rootcellarlaw11_cluster.f kj6 0).bind fun t250 => ((cell_Put.f t244 t245 t241 t250).bind fun bt251 => ((cell_Drop.f bt251.1 bt251.2.1 t241).bind fun bt257 => ((some (([] : List (S32)) : List (S32))).bind fun y263 => (if y263.length + t238.length < 2932031007402 then ((some (y263 ++ t238 : List (S32))).bind fun y266 => ((some (([(⟨wrap64 ((t238.length : Int) + 1), (t238.length : Int), (⟨bt251.1, bt251.2.1⟩ : S26)⟩ : S32)] : List (S32)) : List (S32))).bind fun y269 => (if y266.length + y269.length < 2932031007402 then ((chain_Read.f (y266 ++ y269) (wrap64 ((t238.length : Int) + 1)) t241).bind fun bt275 => ((some (([] : List (S32)) : List (S32))).bind fun y277 => (if y277.length + t238.length < 2932031007402 then ((some (y277 ++ t238 : List (S32))).bind fun y280 => ((some (([(⟨wrap64 ((t238.length : Int) + 1), (t238.length : Int), (⟨bt257.1, bt257.2.1⟩ : S26)⟩ : S32)] : List (S32)) : List (S32))).bind fun y283 => (if y280.length + y283.length < 2932031007402 then ((chain_Read.f (y280 ++ y283) (wrap64 ((t238.length : Int) + 1)) t241).bind fun bt289 => (if t243 = 0 then (if bt251.2.2 = 0 then (if bt257.2.2 = 0 then (if bt275.2 = 0 then (if bt289.2 = 0 then ((rootcellarlaw11_cluster.f kj6 0).bind fun t291 => (if bt275.1.toList = t291.toList then (some (bt289.1.toList == t242.toList)) else (none))) else (none)) else (none)) else (none)) else (none)) else (none))) else (none)))) else (none)))) else (none)))) else (none)))))) = some r := H
    have A15 := Aside0.mk A150
    clear A150
    replace H := Option.bind_eq_some_iff.mp H
    obtain ⟨t250, A160, H⟩ := H
    replace H : ((cell_Put.f t244 t245 t241 t250).bind fun bt251 => ((cell_Drop.f bt251.1 bt251.2.1 t241).bind fun bt257 => ((some (([] : List (S32)) : List (S32))).bind fun y263 => (if y263.length + t238.length < 2932031007402 then ((some (y263 ++ t238 : List (S32))).bind fun y266 => ((some (([(⟨wrap64 ((t238.length : Int) + 1), (t238.length : Int), (⟨bt251.1, bt251.2.1⟩ : S26)⟩ : S32)] : List (S32)) : List (S32))).bind fun y269 => (if y266.length + y269.length < 2932031007402 then ((chain_Read.f (y266 ++ y269) (wrap64 ((t238.length : Int) + 1)) t241).bind fun bt275 => ((some (([] : List (S32)) : List (S32))).bind fun y277 => (if y277.length + t238.length < 2932031007402 then ((some (y277 ++ t238 : List (S32))).bind fun y280 => ((some (([(⟨wrap64 ((t238.length : Int) + 1), (t238.length : Int), (⟨bt257.1, bt257.2.1⟩ : S26)⟩ : S32)] : List (S32)) : List (S32))).bind fun y283 => (if y280.length + y283.length < 2932031007402 then ((chain_Read.f (y280 ++ y283) (wrap64 ((t238.length : Int) + 1)) t241).bind fun bt289 => (if t243 = 0 then (if bt251.2.2 = 0 then (if bt257.2.2 = 0 then (if bt275.2 = 0 then (if bt289.2 = 0 then ((rootcellarlaw11_cluster.f kj6 0).bind fun t291 => (if bt275.1.toList = t291.toList then (some (bt289.1.toList == t242.toList)) else (none))) else (none)) else (none)) else (none)) else (none)) else (none))) else (none)))) else (none)))) else (none)))) else (none))))) = some r := H
    have A16 := Aside0.mk A160
    clear A160
    replace H := Option.bind_eq_some_iff.mp H
    obtain ⟨⟨t251, t252, t255⟩, A170, H⟩ := H
    replace H : ((cell_Drop.f t251 t252 t241).bind fun bt257 => ((some (([] : List (S32)) : List (S32))).bind fun y263 => (if y263.length + t238.length < 2932031007402 then ((some (y263 ++ t238 : List (S32))).bind fun y266 => ((some (([(⟨wrap64 ((t238.length : Int) + 1), (t238.length : Int), (⟨t251, t252⟩ : S26)⟩ : S32)] : List (S32)) : List (S32))).bind fun y269 => (if y266.length + y269.length < 2932031007402 then ((chain_Read.f (y266 ++ y269) (wrap64 ((t238.length : Int) + 1)) t241).bind fun bt275 => ((some (([] : List (S32)) : List (S32))).bind fun y277 => (if y277.length + t238.length < 2932031007402 then ((some (y277 ++ t238 : List (S32))).bind fun y280 => ((some (([(⟨wrap64 ((t238.length : Int) + 1), (t238.length : Int), (⟨bt257.1, bt257.2.1⟩ : S26)⟩ : S32)] : List (S32)) : List (S32))).bind fun y283 => (if y280.length + y283.length < 2932031007402 then ((chain_Read.f (y280 ++ y283) (wrap64 ((t238.length : Int) + 1)) t241).bind fun bt289 => (if t243 = 0 then (if t255 = 0 then (if bt257.2.2 = 0 then (if bt275.2 = 0 then (if bt289.2 = 0 then ((rootcellarlaw11_cluster.f kj6 0).bind fun t291 => (if bt275.1.toList = t291.toList then (some (bt289.1.toList == t242.toList)) else (none))) else (none)) else (none)) else (none)) else (none)) else (none))) else (none)))) else (none)))) else (none)))) else (none)))) = some r := H
    have A17 := Aside0.mk A170
    clear A170
    replace H := Option.bind_eq_some_iff.mp H
    obtain ⟨⟨t257, t258, t261⟩, A180, H⟩ := H
    replace H : ((some (([] : List (S32)) : List (S32))).bind fun y263 => (if y263.length + t238.length < 2932031007402 then ((some (y263 ++ t238 : List (S32))).bind fun y266 => ((some (([(⟨wrap64 ((t238.length : Int) + 1), (t238.length : Int), (⟨t251, t252⟩ : S26)⟩ : S32)] : List (S32)) : List (S32))).bind fun y269 => (if y266.length + y269.length < 2932031007402 then ((chain_Read.f (y266 ++ y269) (wrap64 ((t238.length : Int) + 1)) t241).bind fun bt275 => ((some (([] : List (S32)) : List (S32))).bind fun y277 => (if y277.length + t238.length < 2932031007402 then ((some (y277 ++ t238 : List (S32))).bind fun y280 => ((some (([(⟨wrap64 ((t238.length : Int) + 1), (t238.length : Int), (⟨t257, t258⟩ : S26)⟩ : S32)] : List (S32)) : List (S32))).bind fun y283 => (if y280.length + y283.length < 2932031007402 then ((chain_Read.f (y280 ++ y283) (wrap64 ((t238.length : Int) + 1)) t241).bind fun bt289 => (if t243 = 0 then (if t255 = 0 then (if t261 = 0 then (if bt275.2 = 0 then (if bt289.2 = 0 then ((rootcellarlaw11_cluster.f kj6 0).bind fun t291 => (if bt275.1.toList = t291.toList then (some (bt289.1.toList == t242.toList)) else (none))) else (none)) else (none)) else (none)) else (none)) else (none))) else (none)))) else (none)))) else (none)))) else (none))) = some r := H
    have A18 := Aside0.mk A180
    clear A180
    obtain ⟨y263, hy263⟩ : ∃ y_ : List (S32), y_ = (([] : List (S32))) := ⟨_, rfl⟩
    replace H : (if y263.length + t238.length < 2932031007402 then ((some (y263 ++ t238 : List (S32))).bind fun y266 => ((some (([(⟨wrap64 ((t238.length : Int) + 1), (t238.length : Int), (⟨t251, t252⟩ : S26)⟩ : S32)] : List (S32)) : List (S32))).bind fun y269 => (if y266.length + y269.length < 2932031007402 then ((chain_Read.f (y266 ++ y269) (wrap64 ((t238.length : Int) + 1)) t241).bind fun bt275 => ((some (([] : List (S32)) : List (S32))).bind fun y277 => (if y277.length + t238.length < 2932031007402 then ((some (y277 ++ t238 : List (S32))).bind fun y280 => ((some (([(⟨wrap64 ((t238.length : Int) + 1), (t238.length : Int), (⟨t257, t258⟩ : S26)⟩ : S32)] : List (S32)) : List (S32))).bind fun y283 => (if y280.length + y283.length < 2932031007402 then ((chain_Read.f (y280 ++ y283) (wrap64 ((t238.length : Int) + 1)) t241).bind fun bt289 => (if t243 = 0 then (if t255 = 0 then (if t261 = 0 then (if bt275.2 = 0 then (if bt289.2 = 0 then ((rootcellarlaw11_cluster.f kj6 0).bind fun t291 => (if bt275.1.toList = t291.toList then (some (bt289.1.toList == t242.toList)) else (none))) else (none)) else (none)) else (none)) else (none)) else (none))) else (none)))) else (none)))) else (none)))) else (none)) = some r := by first | (rw [hy263]; with_reducible exact H) | (have H2_ := (Option.bind_some _ _).symm.trans H; rw [hy263]; with_reducible exact H2_) | (have H2_ := (Option.bind_some _ _).symm.trans H; with_reducible exact H2_) | with_reducible exact H | (rw [hy263]; exact H) | exact H
    have Ny263 := Aside0.mk hy263
    clear hy263
    by_cases c19 : y263.length + t238.length < 2932031007402
    ·rw [if_pos c19] at H
     have LMc19 := Aside0.mk c19
     clear c19
     obtain ⟨y266, hy266⟩ : ∃ y_ : List (S32), y_ = (y263 ++ t238) := ⟨_, rfl⟩
     replace H : ((some (([(⟨wrap64 ((t238.length : Int) + 1), (t238.length : Int), (⟨t251, t252⟩ : S26)⟩ : S32)] : List (S32)) : List (S32))).bind fun y269 => (if y266.length + y269.length < 2932031007402 then ((chain_Read.f (y266 ++ y269) (wrap64 ((t238.length : Int) + 1)) t241).bind fun bt275 => ((some (([] : List (S32)) : List (S32))).bind fun y277 => (if y277.length + t238.length < 2932031007402 then ((some (y277 ++ t238 : List (S32))).bind fun y280 => ((some (([(⟨wrap64 ((t238.length : Int) + 1), (t238.length : Int), (⟨t257, t258⟩ : S26)⟩ : S32)] : List (S32)) : List (S32))).bind fun y283 => (if y280.length + y283.length < 2932031007402 then ((chain_Read.f (y280 ++ y283) (wrap64 ((t238.length : Int) + 1)) t241).bind fun bt289 => (if t243 = 0 then (if t255 = 0 then (if t261 = 0 then (if bt275.2 = 0 then (if bt289.2 = 0 then ((rootcellarlaw11_cluster.f kj6 0).bind fun t291 => (if bt275.1.toList = t291.toList then (some (bt289.1.toList == t242.toList)) else (none))) else (none)) else (none)) else (none)) else (none)) else (none))) else (none)))) else (none)))) else (none))) = some r := by first | (rw [hy266]; with_reducible exact H) | (have H2_ := (Option.bind_some _ _).symm.trans H; rw [hy266]; with_reducible exact H2_) | (have H2_ := (Option.bind_some _ _).symm.trans H; with_reducible exact H2_) | with_reducible exact H | (rw [hy266]; exact H) | exact H
     have Ny266 := Aside0.mk hy266
     clear hy266
     obtain ⟨y269, hy269⟩ : ∃ y_ : List (S32), y_ = (([(⟨wrap64 ((t238.length : Int) + 1), (t238.length : Int), (⟨t251, t252⟩ : S26)⟩ : S32)] : List (S32))) := ⟨_, rfl⟩
     replace H : (if y266.length + y269.length < 2932031007402 then ((chain_Read.f (y266 ++ y269) (wrap64 ((t238.length : Int) + 1)) t241).bind fun bt275 => ((some (([] : List (S32)) : List (S32))).bind fun y277 => (if y277.length + t238.length < 2932031007402 then ((some (y277 ++ t238 : List (S32))).bind fun y280 => ((some (([(⟨wrap64 ((t238.length : Int) + 1), (t238.length : Int), (⟨t257, t258⟩ : S26)⟩ : S32)] : List (S32)) : List (S32))).bind fun y283 => (if y280.length + y283.length < 2932031007402 then ((chain_Read.f (y280 ++ y283) (wrap64 ((t238.length : Int) + 1)) t241).bind fun bt289 => (if t243 = 0 then (if t255 = 0 then (if t261 = 0 then (if bt275.2 = 0 then (if bt289.2 = 0 then ((rootcellarlaw11_cluster.f kj6 0).bind fun t291 => (if bt275.1.toList = t291.toList then (some (bt289.1.toList == t242.toList)) else (none))) else (none)) else (none)) else (none)) else (none)) else (none))) else (none)))) else (none)))) else (none)) = some r := by first | (rw [hy269]; with_reducible exact H) | (have H2_ := (Option.bind_some _ _).symm.trans H; rw [hy269]; with_reducible exact H2_) | (have H2_ := (Option.bind_some _ _).symm.trans H; with_reducible exact H2_) | with_reducible exact H | (rw [hy269]; exact H) | exact H
     have Ny269 := Aside0.mk hy269
     clear hy269
     by_cases c20 : y266.length + y269.length < 2932031007402
     ·rw [if_pos c20] at H
      have LMc20 := Aside0.mk c20
      clear c20
      obtain ⟨y272, hy272⟩ : ∃ y_ : List (S32), y_ = (y266 ++ y269) := ⟨_, rfl⟩
      replace H : ((chain_Read.f y272 (wrap64 ((t238.length : Int) + 1)) t241).bind fun bt275 => ((some (([] : List (S32)) : List (S32))).bind fun y277 => (if y277.length + t238.length < 2932031007402 then ((some (y277 ++ t238 : List (S32))).bind fun y280 => ((some (([(⟨wrap64 ((t238.length : Int) + 1), (t238.length : Int), (⟨t257, t258⟩ : S26)⟩ : S32)] : List (S32)) : List (S32))).bind fun y283 => (if y280.length + y283.length < 2932031007402 then ((chain_Read.f (y280 ++ y283) (wrap64 ((t238.length : Int) + 1)) t241).bind fun bt289 => (if t243 = 0 then (if t255 = 0 then (if t261 = 0 then (if bt275.2 = 0 then (if bt289.2 = 0 then ((rootcellarlaw11_cluster.f kj6 0).bind fun t291 => (if bt275.1.toList = t291.toList then (some (bt289.1.toList == t242.toList)) else (none))) else (none)) else (none)) else (none)) else (none)) else (none))) else (none)))) else (none)))) = some r := by first | (rw [hy272]; with_reducible exact H) | (have H2_ := (Option.bind_some _ _).symm.trans H; rw [hy272]; with_reducible exact H2_) | (have H2_ := (Option.bind_some _ _).symm.trans H; with_reducible exact H2_) | with_reducible exact H | (rw [hy272]; exact H) | exact H
      have Ny272 := Aside0.mk hy272
      clear hy272
      replace H := Option.bind_eq_some_iff.mp H
      obtain ⟨⟨t275, t276⟩, A210, H⟩ := H
      replace H : ((some (([] : List (S32)) : List (S32))).bind fun y277 => (if y277.length + t238.length < 2932031007402 then ((some (y277 ++ t238 : List (S32))).bind fun y280 => ((some (([(⟨wrap64 ((t238.length : Int) + 1), (t238.length : Int), (⟨t257, t258⟩ : S26)⟩ : S32)] : List (S32)) : List (S32))).bind fun y283 => (if y280.length + y283.length < 2932031007402 then ((chain_Read.f (y280 ++ y283) (wrap64 ((t238.length : Int) + 1)) t241).bind fun bt289 => (if t243 = 0 then (if t255 = 0 then (if t261 = 0 then (if t276 = 0 then (if bt289.2 = 0 then ((rootcellarlaw11_cluster.f kj6 0).bind fun t291 => (if t275.toList = t291.toList then (some (bt289.1.toList == t242.toList)) else (none))) else (none)) else (none)) else (none)) else (none)) else (none))) else (none)))) else (none))) = some r := H
      have A21 := Aside0.mk A210
      clear A210
      obtain ⟨y277, hy277⟩ : ∃ y_ : List (S32), y_ = (([] : List (S32))) := ⟨_, rfl⟩
      replace H : (if y277.length + t238.length < 2932031007402 then ((some (y277 ++ t238 : List (S32))).bind fun y280 => ((some (([(⟨wrap64 ((t238.length : Int) + 1), (t238.length : Int), (⟨t257, t258⟩ : S26)⟩ : S32)] : List (S32)) : List (S32))).bind fun y283 => (if y280.length + y283.length < 2932031007402 then ((chain_Read.f (y280 ++ y283) (wrap64 ((t238.length : Int) + 1)) t241).bind fun bt289 => (if t243 = 0 then (if t255 = 0 then (if t261 = 0 then (if t276 = 0 then (if bt289.2 = 0 then ((rootcellarlaw11_cluster.f kj6 0).bind fun t291 => (if t275.toList = t291.toList then (some (bt289.1.toList == t242.toList)) else (none))) else (none)) else (none)) else (none)) else (none)) else (none))) else (none)))) else (none)) = some r := by first | (rw [hy277]; with_reducible exact H) | (have H2_ := (Option.bind_some _ _).symm.trans H; rw [hy277]; with_reducible exact H2_) | (have H2_ := (Option.bind_some _ _).symm.trans H; with_reducible exact H2_) | with_reducible exact H | (rw [hy277]; exact H) | exact H
      have Ny277 := Aside0.mk hy277
      clear hy277
      by_cases c22 : y277.length + t238.length < 2932031007402
      ·rw [if_pos c22] at H
       have LMc22 := Aside0.mk c22
       clear c22
       obtain ⟨y280, hy280⟩ : ∃ y_ : List (S32), y_ = (y277 ++ t238) := ⟨_, rfl⟩
       replace H : ((some (([(⟨wrap64 ((t238.length : Int) + 1), (t238.length : Int), (⟨t257, t258⟩ : S26)⟩ : S32)] : List (S32)) : List (S32))).bind fun y283 => (if y280.length + y283.length < 2932031007402 then ((chain_Read.f (y280 ++ y283) (wrap64 ((t238.length : Int) + 1)) t241).bind fun bt289 => (if t243 = 0 then (if t255 = 0 then (if t261 = 0 then (if t276 = 0 then (if bt289.2 = 0 then ((rootcellarlaw11_cluster.f kj6 0).bind fun t291 => (if t275.toList = t291.toList then (some (bt289.1.toList == t242.toList)) else (none))) else (none)) else (none)) else (none)) else (none)) else (none))) else (none))) = some r := by first | (rw [hy280]; with_reducible exact H) | (have H2_ := (Option.bind_some _ _).symm.trans H; rw [hy280]; with_reducible exact H2_) | (have H2_ := (Option.bind_some _ _).symm.trans H; with_reducible exact H2_) | with_reducible exact H | (rw [hy280]; exact H) | exact H
       have Ny280 := Aside0.mk hy280
       clear hy280
       obtain ⟨y283, hy283⟩ : ∃ y_ : List (S32), y_ = (([(⟨wrap64 ((t238.length : Int) + 1), (t238.length : Int), (⟨t257, t258⟩ : S26)⟩ : S32)] : List (S32))) := ⟨_, rfl⟩
       replace H : (if y280.length + y283.length < 2932031007402 then ((chain_Read.f (y280 ++ y283) (wrap64 ((t238.length : Int) + 1)) t241).bind fun bt289 => (if t243 = 0 then (if t255 = 0 then (if t261 = 0 then (if t276 = 0 then (if bt289.2 = 0 then ((rootcellarlaw11_cluster.f kj6 0).bind fun t291 => (if t275.toList = t291.toList then (some (bt289.1.toList == t242.toList)) else (none))) else (none)) else (none)) else (none)) else (none)) else (none))) else (none)) = some r := by first | (rw [hy283]; with_reducible exact H) | (have H2_ := (Option.bind_some _ _).symm.trans H; rw [hy283]; with_reducible exact H2_) | (have H2_ := (Option.bind_some _ _).symm.trans H; with_reducible exact H2_) | with_reducible exact H | (rw [hy283]; exact H) | exact H
       have Ny283 := Aside0.mk hy283
       clear hy283
       by_cases c23 : y280.length + y283.length < 2932031007402
       ·rw [if_pos c23] at H
        have LMc23 := Aside0.mk c23
        clear c23
        obtain ⟨y286, hy286⟩ : ∃ y_ : List (S32), y_ = (y280 ++ y283) := ⟨_, rfl⟩
        replace H : ((chain_Read.f y286 (wrap64 ((t238.length : Int) + 1)) t241).bind fun bt289 => (if t243 = 0 then (if t255 = 0 then (if t261 = 0 then (if t276 = 0 then (if bt289.2 = 0 then ((rootcellarlaw11_cluster.f kj6 0).bind fun t291 => (if t275.toList = t291.toList then (some (bt289.1.toList == t242.toList)) else (none))) else (none)) else (none)) else (none)) else (none)) else (none))) = some r := by first | (rw [hy286]; with_reducible exact H) | (have H2_ := (Option.bind_some _ _).symm.trans H; rw [hy286]; with_reducible exact H2_) | (have H2_ := (Option.bind_some _ _).symm.trans H; with_reducible exact H2_) | with_reducible exact H | (rw [hy286]; exact H) | exact H
        have Ny286 := Aside0.mk hy286
        clear hy286
        replace H := Option.bind_eq_some_iff.mp H
        obtain ⟨⟨t289, t290⟩, A240, H⟩ := H
        replace H : (if t243 = 0 then (if t255 = 0 then (if t261 = 0 then (if t276 = 0 then (if t290 = 0 then ((rootcellarlaw11_cluster.f kj6 0).bind fun t291 => (if t275.toList = t291.toList then (some (t289.toList == t242.toList)) else (none))) else (none)) else (none)) else (none)) else (none)) else (none)) = some r := H
        have A24 := Aside0.mk A240
        clear A240
        by_cases c25 : t243 = 0
        ·rw [if_pos c25] at H
         have c25b0 : (t243 == 0) = true := beq_iff_eq.mpr c25
         have c25b1 : (t243 != 0) = false := bne_eq_false_iff_eq.mpr c25
         clear c25
         by_cases c26 : t255 = 0
         ·rw [if_pos c26] at H
          have c26b0 : (t255 == 0) = true := beq_iff_eq.mpr c26
          have c26b1 : (t255 != 0) = false := bne_eq_false_iff_eq.mpr c26
          clear c26
          by_cases c27 : t261 = 0
          ·rw [if_pos c27] at H
           have c27b0 : (t261 == 0) = true := beq_iff_eq.mpr c27
           have c27b1 : (t261 != 0) = false := bne_eq_false_iff_eq.mpr c27
           clear c27
           by_cases c28 : t276 = 0
           ·rw [if_pos c28] at H
            have c28b0 : (t276 == 0) = true := beq_iff_eq.mpr c28
            have c28b1 : (t276 != 0) = false := bne_eq_false_iff_eq.mpr c28
            clear c28
            by_cases c29 : t290 = 0
            ·rw [if_pos c29] at H
             have c29b0 : (t290 == 0) = true := beq_iff_eq.mpr c29
             have c29b1 : (t290 != 0) = false := bne_eq_false_iff_eq.mpr c29
             clear c29
             replace H := Option.bind_eq_some_iff.mp H
             obtain ⟨t291, A300, H⟩ := H
             replace H : (if t275.toList = t291.toList then (some (t289.toList == t242.toList)) else (none)) = some r := H
             have A30 := Aside0.mk A300
             clear A300
             by_cases c31 : t275.toList = t291.toList
             ·rw [if_pos c31] at H
              have c31b0 : (t275.toList == t291.toList) = true := beq_iff_eq.mpr c31
              have c31b1 : (t275.toList != t291.toList) = false := bne_eq_false_iff_eq.mpr c31
              clear c31
              obtain rfl := Option.some.inj H
              obtain ⟨Ao32, co32, eo32⟩ := Kd.N_slice HO_9.out
              subst eo32
              try go_wp2_with (first | ((with_reducible refine gate_callee (f := 10) rfl ?_); refine goesL_ (some 42) rfl rfl Try.func10 (by kernel_rfl) rfl #[.int .i64 a2, .int .i64 (wrap64 (1 + t237))] rfl (by (try simp only [List.map_toArray, List.map_cons, List.map_nil]); first | done | rfl | (simp only [List.length_drop, List.length_take]; rfl)) ?_; (with_reducible refine (rootcellarlaw11_pick.calls a2 (wrap64 (1 + t237)) t241 _ A13.out).mono ?_); rintro e w' ⟨rfl, ⟨nd, rfl⟩⟩; refine ⟨_, rfl, ?_⟩; (try (rw [drewN_self wc]; generalize hq_ : World.drewN wc _ = wc; have n0_ : Aside0 (Kd.N k32 32 wc w.heap.size (fun _ => True) (.slice Ao32 t238.length co32) t238) := ⟨by rw [← hq_]; exact (by (with_reducible repeat (first | apply Kd.N_alloc | apply Kd.N_drewN | apply Kd.N_drew)); exact HO_9.out)⟩; have n1_ : Aside0 (Below w.heap.size w wc) := ⟨by rw [← hq_]; exact (by repeat (first | (with_reducible first | exact HB.out | apply below_alloc | apply pw_below_drewN | apply below_drew1) | exact HB.out))⟩; clear HO_9 HB hq_; have HO_9 := n0_; have HB := n1_; clear n0_ n1_))) | ((with_reducible refine gate_callee (f := 13) rfl ?_); refine goesL_ (some 47) rfl rfl Try.func13 (by kernel_rfl) rfl #[.slice Ao32 t238.length co32, .int .i64 (t238.length : Int), .int .i64 t241] rfl (by (try simp only [List.map_toArray, List.map_cons, List.map_nil]); first | done | rfl | (simp only [List.length_drop, List.length_take]; rfl)) ?_; (with_reducible refine (chain_Read.calls _ _ t238 (t238.length : Int) t241 t242 t243 _ ?side1 ?side2 A14.out).mono ?_); (case side1 => repeat (first | exact (Kd.N_reads' HO_9.out).2.2 | (with_reducible refine Kd.C_alloc ?_ _) | (with_reducible refine Kd.C_drewN ?_ _) | (with_reducible refine Kd.C_drew ?_))); (case side2 => exact (Kd.N_reads' HO_9.out).2.1); rintro e w33 ⟨rfl, hb⟩; refine ⟨_, rfl, ?_⟩; have n0_ := Aside0.mk (Kd.N_below (by (with_reducible repeat (first | apply Kd.N_alloc | apply Kd.N_drewN | apply Kd.N_drew)); exact HO_9.out) hb); have n1_ := Aside0.mk (below_step (by repeat (first | (with_reducible first | exact HB.out | apply below_alloc | apply pw_below_drewN | apply below_drew1) | exact HB.out)) hb); clear HO_9; clear HB; have HO_9 := n0_; have HB := n1_; clear n0_ n1_; (try clear hb); (try clear hb2); (try clear hk); (try clear hi)) | ((with_reducible refine gate_callee (f := 11) rfl ?_); refine goesL_ (some 52) rfl rfl Try.func11 (by kernel_rfl) rfl #[.int .i64 (wrap64 (1 + t237))] rfl (by (try simp only [List.map_toArray, List.map_cons, List.map_nil]); first | done | rfl | (simp only [List.length_drop, List.length_take]; rfl)) ?_; (with_reducible refine (cell_New.calls (wrap64 (1 + t237)) t244 t245 t248 _ A15.out).mono ?_); rintro e w34 ⟨v246, rfl, ho0, hb⟩; refine ⟨_, rfl, ?_⟩; have n0_ := Aside0.mk (Kd.N_elder' (by (with_reducible repeat (first | apply Kd.N_alloc | apply Kd.N_drewN | apply Kd.N_drew)); exact HO_9.out) (Kd.R_base ho0) hb); have n1_ := Aside0.mk (Kd.R_lower ho0 (below_size (by repeat (first | (with_reducible first | exact HB.out | apply below_alloc | apply pw_below_drewN | apply below_drew1) | exact HB.out)))); have n2_ := Aside0.mk (below_step (by repeat (first | (with_reducible first | exact HB.out | apply below_alloc | apply pw_below_drewN | apply below_drew1) | exact HB.out)) hb); clear HO_9; clear HB; have HO_9 := n0_; have HO247 := n1_; have HB := n2_; clear n0_ n1_ n2_; (try clear hb); (try clear hb2); (try clear hk); (try clear hi); (try clear ho0)) | ((with_reducible refine gate_dst (N := 13) rfl ?_); (try (refine gate_guard (by rfl) ?_; dsimp only)); refine box_event ?hg (N := 13) ?hd (cs := #[.int .i64 0, .slice none 0 0]) (t := 26) ?hr ?_; (case hd => rfl); (case hg => rfl); (case hr => first | (go_simp; done) | (go_simp; rfl)); intro gb249 hg w35 hbox hb; have n0_ := Aside0.mk (Kd.N_below (Kd.N_elderB (by (with_reducible repeat (first | apply Kd.N_alloc | apply Kd.N_drewN | apply Kd.N_drew)); exact HO_9.out) gb249 (Nat.le_of_eq hg.symm)) hb); have n1_ := Aside0.mk (Kd.R_below (by (with_reducible repeat (first | apply Kd.R_alloc | apply Kd.R_drewN | apply Kd.R_drew)); exact HO247.out) hb); have n2_ := Aside0.mk (below_step (by repeat (first | (with_reducible first | exact HB.out | apply below_alloc | apply pw_below_drewN | apply below_drew1) | exact HB.out)) hb); have n3_ := Aside0.mk (hbox); have n4_ := Aside0.mk ((by rw [hg]; exact (below_size (by repeat (first | (with_reducible first | exact HB.out | apply below_alloc | apply pw_below_drewN | apply below_drew1) | exact HB.out))) : w.heap.size ≤ gb249)); have n5_ := Aside0.mk ((by rw [hg]; exact (below_size (by repeat (first | (with_reducible first | exact HB.out | apply below_alloc | apply pw_below_drewN | apply below_drew1) | exact HB.out))) : w.heap.size ≤ gb249)); clear HO_9; clear HO247; clear HB; have HO_9 := n0_; have HO247 := n1_; have HB := n2_; have BK249 := n3_; have GW249 := n4_; have GE249 := n5_; clear n0_ n1_ n2_ n3_ n4_ n5_; clear hb hbox hg; have hcz36_0 : w35.cell? ⟨gb249, 0, none⟩ = some (.int .i64 0) := (blk_cell BK249.out 0).trans rfl; have hcz36_1 : w35.cell? ⟨gb249, 1, none⟩ = some (.slice none 0 0) := (blk_cell BK249.out 1).trans rfl; have hfz36_0 := blk_frozen BK249.out 0; have hfz36_1 := blk_frozen BK249.out 1; obtain ⟨Ao37, co37, eo37⟩ := Kd.R_slice HO247.out; subst eo37))
              have n0_ : Aside0 (Kd.N k32 32 ((w35.setCell ⟨gb249, 0, none⟩ (.int .i64 t244)).setCell ⟨gb249, 1, none⟩ (.slice Ao37 t245.length co37)) w.heap.size (fun k_ => some k_ ≠ (.slice Ao37 t245.length co37 : Value).ownBlock ∧ k_ ≠ gb249) (.slice Ao32 t238.length co32) t238) := ⟨by (with_reducible repeat (first | apply Kd.N_alloc | apply Kd.N_drewN | apply Kd.N_drew)); exact Kd.N_mono (Kd.N_far (p := ⟨gb249, 1, none⟩) (Kd.N_far (p := ⟨gb249, 0, none⟩) (Kd.N_mono HO_9.out (fun k_ hk => (⟨hk, hk.2⟩ : _ ∧ k_ ≠ gb249))) (fun _ hk => hk.2) (.int .i64 t244)) (fun _ hk => hk.2) (.slice Ao37 t245.length co37)) (fun _ hk => ⟨hk.1.1.2, hk.1.2⟩)⟩
              have n1_ : Aside0 (Kd.R k67 67 ((w35.setCell ⟨gb249, 0, none⟩ (.int .i64 t244)).setCell ⟨gb249, 1, none⟩ (.slice Ao37 t245.length co37)) w.heap.size (fun _ => True) (.slice Ao37 t245.length co37) t245) := ⟨by (with_reducible repeat (first | apply Kd.R_alloc | apply Kd.R_drewN | apply Kd.R_drew)); exact Kd.R_mono (Kd.R_far (p := ⟨gb249, 1, none⟩) (Kd.R_far (p := ⟨gb249, 0, none⟩) (Kd.R_types HO247.out BK249.out (by decide)) (fun _ hk => hk.2) (.int .i64 t244)) (fun _ hk => hk.2) (.slice Ao37 t245.length co37)) (fun _ hk => trivial)⟩
              have n2_ : Aside0 (((w35.setCell ⟨gb249, 0, none⟩ (.int .i64 t244)).setCell ⟨gb249, 1, none⟩ (.slice Ao37 t245.length co37)).heap[gb249]? = some (.cells #[.int .i64 t244, .slice Ao37 t245.length co37] 26 (0, 0))) := ⟨by (with_reducible repeat (first | refine blk_drewN ?_ _ | refine blk_drew ?_ | refine blk_alloc ?_ _)); refine blk_put (cs := #[.int .i64 t244, .slice none 0 0]) ?_ 1 _ rfl; (with_reducible repeat (first | refine blk_drewN ?_ _ | refine blk_drew ?_ | refine blk_alloc ?_ _)); refine blk_put (cs := #[.int .i64 0, .slice none 0 0]) ?_ 0 _ rfl; (with_reducible repeat (first | refine blk_drewN ?_ _ | refine blk_drew ?_ | refine blk_alloc ?_ _)); exact BK249.out⟩
              have n3_ : Aside0 (Below w.heap.size w ((w35.setCell ⟨gb249, 0, none⟩ (.int .i64 t244)).setCell ⟨gb249, 1, none⟩ (.slice Ao37 t245.length co37))) := ⟨by repeat (first | (with_reducible first | exact HB.out | apply below_alloc | apply pw_below_drewN | apply below_drew1 | refine below_set ?_ GE249.out) | exact HB.out)⟩
              (try clear HO_9)
              (try clear HO247)
              (try clear BK249)
              (try clear HB)
              generalize ((w35.setCell ⟨gb249, 0, none⟩ (.int .i64 t244)).setCell ⟨gb249, 1, none⟩ (.slice Ao37 t245.length co37)) = w38 at n0_ n1_ n2_ n3_ ⊢
              have HO_9 := n0_
              have HO247 := n1_
              have BK249 := n2_
              have HB := n3_
              clear n0_ n1_ n2_ n3_
              have n0_ := Aside0.mk (Kd.N_drew HO_9.out)
              have n1_ := Aside0.mk (Kd.R_drew HO247.out)
              have n2_ := Aside0.mk (blk_drew BK249.out)
              have n3_ := Aside0.mk (below_drew1 HB.out)
              clear HO_9
              clear HO247
              clear BK249
              clear HB
              have HO_9 := n0_
              have HO247 := n1_
              have BK249 := n2_
              have HB := n3_
              clear n0_ n1_ n2_ n3_
              refine start_ (n := 10) (S := fun w' => w'.cell? ⟨gb249, 0, none⟩ = some (.int .i64 t244) ∧ w'.cell? ⟨gb249, 1, none⟩ = some (.slice Ao37 t245.length co37)) (ds := []) #[false, false, false, false, false, false, false, false, false, false] (by kernel_rfl) rfl rfl ⟨(blk_cell BK249.out 0).trans rfl, (blk_cell BK249.out 1).trans rfl⟩ (fun hHeld => ?_); refine with_tabW rootcellarlaw11_ChainMarks.tab10 rootcellarlaw11_ChainMarks.bits10 (fun HT_ HW_ => ?_)
              generalize w38.drew = w39 at HO_9 HO247 BK249 HB hHeld ⊢
              refine pure_ (i := 1) (N := some 57) (v := ?_) (a' := ?_) #[false, true, false, false, false, false, false, false, false, false] rfl rfl (any_of HT_.out (by kernel_rfl)) (fun _ _ _ h => h) (Or.inl ⟨by rfl, ?_⟩) ?_ ?_
              rotate_left
              ·intro w'
               go_simp
               with_reducible rfl
              rotate_left
              ·simp only [Act.put, List.setIfInBounds_toArray, List.set_cons_zero, List.set_cons_succ, i64_w, i32_w]
               rfl
              refine take_ (i := 0) (N := some 56) (v := ?_) (a' := ?_) #[true, true, false, false, false, false, false, false, false, false] rfl rfl (take_ofW HT_.out HW_.out (by kernel_rfl)) (fun _ _ _ h => h) (Or.inl ⟨by rfl, ?_⟩) hHeld ?_ ?_
              rotate_left
              ·rintro w' ⟨s0, s1⟩
               go_simp
               with_reducible rfl
              rotate_left
              ·simp only [Act.put, List.setIfInBounds_toArray, List.set_cons_zero, List.set_cons_succ, i64_w, i32_w]
               rfl
              refine join_ (σ := Value × Nat) 2 #[true, true, true, true, true, true, true, true, false, false] (fun s_ => [(58, .string t250), (59, .tuple #[.agg #[.int .i64 t251, s_.1], .int .i64 t255]), (15, .pointer (some ⟨s_.2, 0, none⟩)), (55, .tuple #[.agg #[.int .i64 t251, s_.1], .int .i64 t255]), (60, .agg #[.int .i64 t251, s_.1]), (61, .int .i64 t255)]) (fun s_ w' => (w'.cell? ⟨gb249, 0, none⟩ = some (.int .i64 t244) ∧ w'.cell? ⟨gb249, 1, none⟩ = some (.slice Ao37 t245.length co37)) ∧ (Kd.R k67 67 w' w.heap.size (fun k_ => some k_ ≠ (s_.1 : Value).ownBlock) (.slice Ao37 t245.length co37) t245) ∧ (Kd.R k67 67 w' w.heap.size (fun k_ => some k_ ≠ (.slice Ao37 t245.length co37 : Value).ownBlock) s_.1 t252) ∧ (Kd.N k32 32 w' w.heap.size (fun k_ => some k_ ≠ (.slice Ao37 t245.length co37 : Value).ownBlock ∧ some k_ ≠ (s_.1 : Value).ownBlock ∧ k_ ≠ gb249 ∧ k_ ≠ s_.2) (.slice Ao32 t238.length co32) t238) ∧ (w'.heap[gb249]? = some (.cells #[.int .i64 t244, .slice Ao37 t245.length co37] 26 (0, 0))) ∧ (w'.heap[s_.2]? = some (.cells #[.int .i64 0, .slice none 0 0] 26 (0, 0))) ∧ (w.heap.size ≤ s_.2) ∧ (w.heap.size ≤ s_.2) ∧ (gb249 ≠ s_.2) ∧ (s_.2 ≠ gb249) ∧ (Below w.heap.size w w')) ?_ ?_
              rotate_left
              ·intro hCont
               refine two_ (i := 2) (j := 7) (Ni := some 58) (Nj := some 15) #[true, true, true, false, false, false, false, false, false, false] #[true, true, false, false, false, false, false, true, false, false] rfl rfl rfl rfl (two_of HT_.out (by kernel_rfl)) (by decide) (by decide) (fun K hK => ?_) (fun K hK => ?_)
               ·skip
                refine goes_ Try.func20 (by kernel_rfl) rfl #[.int .i64 0] (by rfl) rfl rfl (by (try simp only [List.map_toArray, List.map_cons, List.map_nil]); first | done | rfl | (simp only [List.length_drop, List.length_take]; rfl)) ?_
                with_reducible refine (rootcellarlaw11_cluster.calls kj6 0 t250 _ A16.out).mono ?_
                rintro e w40 ⟨rfl, hb⟩
                refine ⟨_, rfl, ?_⟩
                have n0_ := Aside0.mk (Kd.N_below (by (with_reducible repeat (first | apply Kd.N_alloc | apply Kd.N_drewN | apply Kd.N_drew)); exact HO_9.out) hb)
                have n1_ := Aside0.mk (Kd.R_below (by (with_reducible repeat (first | apply Kd.R_alloc | apply Kd.R_drewN | apply Kd.R_drew)); exact HO247.out) hb)
                have n2_ := Aside0.mk (blk_below (g := gb249) (o := .cells #[.int .i64 t244, .slice Ao37 t245.length co37] 26 (0, 0)) (by (with_reducible repeat (first | refine blk_drewN ?_ _ | refine blk_drew ?_ | refine blk_alloc ?_ _)); exact BK249.out) hb)
                have n3_ := Aside0.mk (below_step (by repeat (first | (with_reducible first | exact HB.out | apply below_alloc | apply pw_below_drewN | apply below_drew1 | refine below_set ?_ GE249.out) | exact HB.out)) hb)
                clear HO_9
                clear HO247
                clear BK249
                clear HB
                have HO_9 := n0_
                have HO247 := n1_
                have BK249 := n2_
                have HB := n3_
                clear n0_ n1_ n2_ n3_
                (try clear hb)
                (try clear hb2)
                (try clear hk)
                (try clear hi)
                refine hK.out _ _ ⟨(blk_cell BK249.out 0).trans rfl, (blk_cell BK249.out 1).trans rfl⟩ (fun hHeld => ?_)
                clear hK K
                refine norm_ (a' := ?_) ?_ ?_
                rotate_left
                ·show Act.put _ (some 58) _ = _
                 simp only [Act.put, List.setIfInBounds_toArray, List.set_cons_zero, List.set_cons_succ, i64_w, i32_w]
                 rfl
                refine two_ (i := 3) (j := 7) (Ni := some 59) (Nj := some 15) #[true, true, true, true, false, false, false, false, false, false] #[true, true, true, false, false, false, false, true, false, false] rfl rfl rfl rfl (two_of HT_.out (by kernel_rfl)) (by decide) (by decide) (fun K hK => ?_) (fun K hK => ?_)
                ·skip
                 refine goes_ Try.func19 (by kernel_rfl) rfl #[.agg #[.int .i64 t244, .slice Ao37 t245.length co37], .int .i64 t241, .string t250] (by rfl) rfl rfl (by (try simp only [List.map_toArray, List.map_cons, List.map_nil]); first | done | rfl | (simp only [List.length_drop, List.length_take]; rfl)) ?_
                 with_reducible refine (cell_Put.calls t244 _ _ t245 t241 t250 t251 t252 t255 _ ?side1 ?side2 A17.out).mono ?_
                 (case side1 => repeat (first | exact (Kd.R_reads' HO247.out).2.2 | (with_reducible refine Kd.C_alloc ?_ _) | (with_reducible refine Kd.C_drewN ?_ _) | (with_reducible refine Kd.C_drew ?_)))
                 (case side2 => exact (Kd.R_reads' HO247.out).2.1)
                 rintro e w41 ⟨v253, rfl, ho0, hb⟩
                 refine ⟨_, rfl, ?_⟩
                 have n0_ := Aside0.mk (Kd.N_elder' (by (with_reducible repeat (first | apply Kd.N_alloc | apply Kd.N_drewN | apply Kd.N_drew)); exact HO_9.out) (Kd.R_base ho0) hb)
                 have n1_ := Aside0.mk (Kd.R_elder' (by (with_reducible repeat (first | apply Kd.R_alloc | apply Kd.R_drewN | apply Kd.R_drew)); exact HO247.out) (Kd.R_base ho0) hb)
                 have n2_ := Aside0.mk (Kd.R_lower (Kd.R_new' ho0 (Kd.R_lt (by (with_reducible repeat (first | apply Kd.R_alloc | apply Kd.R_drewN | apply Kd.R_drew)); exact HO247.out))) (below_size (by repeat (first | (with_reducible first | exact HB.out | apply below_alloc | apply pw_below_drewN | apply below_drew1 | refine below_set ?_ GE249.out) | exact HB.out))))
                 have n3_ := Aside0.mk (blk_below (g := gb249) (o := .cells #[.int .i64 t244, .slice Ao37 t245.length co37] 26 (0, 0)) (by (with_reducible repeat (first | refine blk_drewN ?_ _ | refine blk_drew ?_ | refine blk_alloc ?_ _)); exact BK249.out) hb)
                 have n4_ := Aside0.mk (below_step (by repeat (first | (with_reducible first | exact HB.out | apply below_alloc | apply pw_below_drewN | apply below_drew1 | refine below_set ?_ GE249.out) | exact HB.out)) hb)
                 clear HO_9
                 clear HO247
                 clear BK249
                 clear HB
                 have HO_9 := n0_
                 have HO247 := n1_
                 have HO254 := n2_
                 have BK249 := n3_
                 have HB := n4_
                 clear n0_ n1_ n2_ n3_ n4_
                 (try clear hb)
                 (try clear hb2)
                 (try clear hk)
                 (try clear hi)
                 (try clear ho0)
                 refine hK.out _ _ ⟨(blk_cell BK249.out 0).trans rfl, (blk_cell BK249.out 1).trans rfl⟩ (fun hHeld => ?_)
                 clear hK K
                 refine norm_ (a' := ?_) ?_ ?_
                 rotate_left
                 ·show Act.put _ (some 59) _ = _
                  simp only [Act.put, List.setIfInBounds_toArray, List.set_cons_zero, List.set_cons_succ, i64_w, i32_w]
                  rfl
                 refine pure_ (i := 4) (N := some 55) (v := ?_) (a' := ?_) #[true, true, true, true, true, false, false, false, false, false] rfl rfl (any_of HT_.out (by kernel_rfl)) (fun _ _ _ h => h) (Or.inl ⟨by rfl, ?_⟩) ?_ ?_
                 rotate_left
                 ·intro w'
                  go_simp
                  with_reducible rfl
                 rotate_left
                 ·simp only [Act.put, List.setIfInBounds_toArray, List.set_cons_zero, List.set_cons_succ, i64_w, i32_w]
                  rfl
                 refine pure_ (i := 5) (N := some 60) (v := ?_) (a' := ?_) #[true, true, true, true, true, true, false, false, false, false] rfl rfl (any_of HT_.out (by kernel_rfl)) (fun _ _ _ h => h) (Or.inl ⟨by rfl, ?_⟩) ?_ ?_
                 rotate_left
                 ·intro w'
                  go_simp
                  with_reducible rfl
                 rotate_left
                 ·simp only [Act.put, List.setIfInBounds_toArray, List.set_cons_zero, List.set_cons_succ, i64_w, i32_w]
                  rfl
                 refine pure_ (i := 6) (N := some 61) (v := ?_) (a' := ?_) #[true, true, true, true, true, true, true, false, false, false] rfl rfl (any_of HT_.out (by kernel_rfl)) (fun _ _ _ h => h) (Or.inl ⟨by rfl, ?_⟩) ?_ ?_
                 rotate_left
                 ·intro w'
                  go_simp
                  with_reducible rfl
                 rotate_left
                 ·simp only [Act.put, List.setIfInBounds_toArray, List.set_cons_zero, List.set_cons_succ, i64_w, i32_w]
                  rfl
                 refine one_ (i := 7) (N := some 15) #[true, true, true, true, true, true, true, true, false, false] rfl rfl (one_of HT_.out (by kernel_rfl)) (by decide) (fun K hK => ?_)
                 refine box_step ?hg (N := 15) ?hd (cs := #[.int .i64 0, .slice none 0 0]) (t := 26) ?hr ?_; (case hd => rfl); (case hg => rfl); (case hr => first | (go_simp; done) | (go_simp; rfl))
                 intro gb256 hg w42 hbox hb
                 have n0_ := Aside0.mk (Kd.N_below (Kd.N_elderB (by (with_reducible repeat (first | apply Kd.N_alloc | apply Kd.N_drewN | apply Kd.N_drew)); exact HO_9.out) gb256 (Nat.le_of_eq hg.symm)) hb)
                 have n1_ := Aside0.mk (Kd.R_below (by (with_reducible repeat (first | apply Kd.R_alloc | apply Kd.R_drewN | apply Kd.R_drew)); exact HO247.out) hb)
                 have n2_ := Aside0.mk (Kd.R_below (by (with_reducible repeat (first | apply Kd.R_alloc | apply Kd.R_drewN | apply Kd.R_drew)); exact HO254.out) hb)
                 have n3_ := Aside0.mk (blk_below (g := gb249) (o := .cells #[.int .i64 t244, .slice Ao37 t245.length co37] 26 (0, 0)) (by (with_reducible repeat (first | refine blk_drewN ?_ _ | refine blk_drew ?_ | refine blk_alloc ?_ _)); exact BK249.out) hb)
                 have n4_ := Aside0.mk (below_step (by repeat (first | (with_reducible first | exact HB.out | apply below_alloc | apply pw_below_drewN | apply below_drew1 | refine below_set ?_ GE249.out) | exact HB.out)) hb)
                 have n5_ := Aside0.mk (hbox)
                 have n6_ := Aside0.mk ((by rw [hg]; exact (below_size (by repeat (first | (with_reducible first | exact HB.out | apply below_alloc | apply pw_below_drewN | apply below_drew1 | refine below_set ?_ GE249.out) | exact HB.out))) : w.heap.size ≤ gb256))
                 have n7_ := Aside0.mk ((by rw [hg]; exact (below_size (by repeat (first | (with_reducible first | exact HB.out | apply below_alloc | apply pw_below_drewN | apply below_drew1 | refine below_set ?_ GE249.out) | exact HB.out))) : w.heap.size ≤ gb256))
                 have n8_ := Aside0.mk ((by rw [hg]; exact Nat.ne_of_lt (blk_lt (g := gb249) (o := .cells #[.int .i64 t244, .slice Ao37 t245.length co37] 26 (0, 0)) (by (with_reducible repeat (first | refine blk_drewN ?_ _ | refine blk_drew ?_ | refine blk_alloc ?_ _)); exact BK249.out)) : gb249 ≠ gb256))
                 have n9_ := Aside0.mk ((by rw [hg]; exact Nat.ne_of_gt (blk_lt (g := gb249) (o := .cells #[.int .i64 t244, .slice Ao37 t245.length co37] 26 (0, 0)) (by (with_reducible repeat (first | refine blk_drewN ?_ _ | refine blk_drew ?_ | refine blk_alloc ?_ _)); exact BK249.out)) : gb256 ≠ gb249))
                 clear HO_9
                 clear HO247
                 clear HO254
                 clear BK249
                 clear HB
                 have HO_9 := n0_
                 have HO247 := n1_
                 have HO254 := n2_
                 have BK249 := n3_
                 have HB := n4_
                 have BK256 := n5_
                 have GW256 := n6_
                 have GE256 := n7_
                 have NB249_256 := n8_
                 have NB256_249 := n9_
                 clear n0_ n1_ n2_ n3_ n4_ n5_ n6_ n7_ n8_ n9_
                 clear hb hbox hg
                 refine hK.out _ _ ⟨(blk_cell BK249.out 0).trans rfl, (blk_cell BK249.out 1).trans rfl⟩ (fun hHeld => ?_)
                 clear hK K
                 refine norm_ (a' := ?_) ?_ ?_
                 rotate_left
                 ·show Act.put _ (some 15) _ = _
                  simp only [Act.put, List.setIfInBounds_toArray, List.set_cons_zero, List.set_cons_succ, i64_w, i32_w]
                  rfl
                 exact norm_ (by simp only [putAll, Act.put, List.setIfInBounds_toArray, List.set_cons_zero, List.set_cons_succ]) (hCont (v253, gb256) _ ⟨hHeld, (by (with_reducible repeat (first | apply Kd.R_alloc | apply Kd.R_drewN | apply Kd.R_drew)); exact Kd.R_mono HO247.out (fun _ hk => hk.2)), (by (with_reducible repeat (first | apply Kd.R_alloc | apply Kd.R_drewN | apply Kd.R_drew)); exact Kd.R_mono HO254.out (fun _ hk => hk.2)), (by (with_reducible repeat (first | apply Kd.N_alloc | apply Kd.N_drewN | apply Kd.N_drew)); exact Kd.N_mono HO_9.out (fun _ hk => ⟨hk.1.1.1, ⟨hk.1.2, ⟨hk.1.1.2, hk.2⟩⟩⟩)), (by (with_reducible repeat (first | refine blk_drewN ?_ _ | refine blk_drew ?_ | refine blk_alloc ?_ _)); exact BK249.out), (by (with_reducible repeat (first | refine blk_drewN ?_ _ | refine blk_drew ?_ | refine blk_alloc ?_ _)); exact BK256.out), GW256.out, GE256.out, NB249_256.out, NB256_249.out, (by repeat (first | (with_reducible first | exact HB.out | apply below_alloc | apply pw_below_drewN | apply below_drew1 | refine below_set ?_ GE249.out | refine below_set ?_ GE256.out) | exact HB.out))⟩)
                ·skip
                 refine box_step ?hg (N := 15) ?hd (cs := #[.int .i64 0, .slice none 0 0]) (t := 26) ?hr ?_; (case hd => rfl); (case hg => rfl); (case hr => first | (go_simp; done) | (go_simp; rfl))
                 intro gb256 hg w41 hbox hb
                 have n0_ := Aside0.mk (Kd.N_below (Kd.N_elderB (by (with_reducible repeat (first | apply Kd.N_alloc | apply Kd.N_drewN | apply Kd.N_drew)); exact HO_9.out) gb256 (Nat.le_of_eq hg.symm)) hb)
                 have n1_ := Aside0.mk (Kd.R_below (by (with_reducible repeat (first | apply Kd.R_alloc | apply Kd.R_drewN | apply Kd.R_drew)); exact HO247.out) hb)
                 have n2_ := Aside0.mk (blk_below (g := gb249) (o := .cells #[.int .i64 t244, .slice Ao37 t245.length co37] 26 (0, 0)) (by (with_reducible repeat (first | refine blk_drewN ?_ _ | refine blk_drew ?_ | refine blk_alloc ?_ _)); exact BK249.out) hb)
                 have n3_ := Aside0.mk (below_step (by repeat (first | (with_reducible first | exact HB.out | apply below_alloc | apply pw_below_drewN | apply below_drew1 | refine below_set ?_ GE249.out) | exact HB.out)) hb)
                 have n4_ := Aside0.mk (hbox)
                 have n5_ := Aside0.mk ((by rw [hg]; exact (below_size (by repeat (first | (with_reducible first | exact HB.out | apply below_alloc | apply pw_below_drewN | apply below_drew1 | refine below_set ?_ GE249.out) | exact HB.out))) : w.heap.size ≤ gb256))
                 have n6_ := Aside0.mk ((by rw [hg]; exact (below_size (by repeat (first | (with_reducible first | exact HB.out | apply below_alloc | apply pw_below_drewN | apply below_drew1 | refine below_set ?_ GE249.out) | exact HB.out))) : w.heap.size ≤ gb256))
                 have n7_ := Aside0.mk ((by rw [hg]; exact Nat.ne_of_lt (blk_lt (g := gb249) (o := .cells #[.int .i64 t244, .slice Ao37 t245.length co37] 26 (0, 0)) (by (with_reducible repeat (first | refine blk_drewN ?_ _ | refine blk_drew ?_ | refine blk_alloc ?_ _)); exact BK249.out)) : gb249 ≠ gb256))
                 have n8_ := Aside0.mk ((by rw [hg]; exact Nat.ne_of_gt (blk_lt (g := gb249) (o := .cells #[.int .i64 t244, .slice Ao37 t245.length co37] 26 (0, 0)) (by (with_reducible repeat (first | refine blk_drewN ?_ _ | refine blk_drew ?_ | refine blk_alloc ?_ _)); exact BK249.out)) : gb256 ≠ gb249))
                 clear HO_9
                 clear HO247
                 clear BK249
                 clear HB
                 have HO_9 := n0_
                 have HO247 := n1_
                 have BK249 := n2_
                 have HB := n3_
                 have BK256 := n4_
                 have GW256 := n5_
                 have GE256 := n6_
                 have NB249_256 := n7_
                 have NB256_249 := n8_
                 clear n0_ n1_ n2_ n3_ n4_ n5_ n6_ n7_ n8_
                 clear hb hbox hg
                 refine hK.out _ _ ⟨(blk_cell BK249.out 0).trans rfl, (blk_cell BK249.out 1).trans rfl⟩ (fun hHeld => ?_)
                 clear hK K
                 refine norm_ (a' := ?_) ?_ ?_
                 rotate_left
                 ·show Act.put _ (some 15) _ = _
                  simp only [Act.put, List.setIfInBounds_toArray, List.set_cons_zero, List.set_cons_succ, i64_w, i32_w]
                  rfl
                 refine one_ (i := 3) (N := some 59) #[true, true, true, true, false, false, false, true, false, false] rfl rfl (one_of HT_.out (by kernel_rfl)) (by decide) (fun K hK => ?_)
                 refine goes_ Try.func19 (by kernel_rfl) rfl #[.agg #[.int .i64 t244, .slice Ao37 t245.length co37], .int .i64 t241, .string t250] (by rfl) rfl rfl (by (try simp only [List.map_toArray, List.map_cons, List.map_nil]); first | done | rfl | (simp only [List.length_drop, List.length_take]; rfl)) ?_
                 with_reducible refine (cell_Put.calls t244 _ _ t245 t241 t250 t251 t252 t255 _ ?side1 ?side2 A17.out).mono ?_
                 (case side1 => repeat (first | exact (Kd.R_reads' HO247.out).2.2 | (with_reducible refine Kd.C_alloc ?_ _) | (with_reducible refine Kd.C_drewN ?_ _) | (with_reducible refine Kd.C_drew ?_)))
                 (case side2 => exact (Kd.R_reads' HO247.out).2.1)
                 rintro e w42 ⟨v253, rfl, ho0, hb⟩
                 refine ⟨_, rfl, ?_⟩
                 have n0_ := Aside0.mk (Kd.N_elder' (by (with_reducible repeat (first | apply Kd.N_alloc | apply Kd.N_drewN | apply Kd.N_drew)); exact HO_9.out) (Kd.R_base ho0) hb)
                 have n1_ := Aside0.mk (Kd.R_elder' (by (with_reducible repeat (first | apply Kd.R_alloc | apply Kd.R_drewN | apply Kd.R_drew)); exact HO247.out) (Kd.R_base ho0) hb)
                 have n2_ := Aside0.mk (Kd.R_lower (Kd.R_new' ho0 (Kd.R_lt (by (with_reducible repeat (first | apply Kd.R_alloc | apply Kd.R_drewN | apply Kd.R_drew)); exact HO247.out))) (below_size (by repeat (first | (with_reducible first | exact HB.out | apply below_alloc | apply pw_below_drewN | apply below_drew1 | refine below_set ?_ GE249.out | refine below_set ?_ GE256.out) | exact HB.out))))
                 have n3_ := Aside0.mk (blk_below (g := gb249) (o := .cells #[.int .i64 t244, .slice Ao37 t245.length co37] 26 (0, 0)) (by (with_reducible repeat (first | refine blk_drewN ?_ _ | refine blk_drew ?_ | refine blk_alloc ?_ _)); exact BK249.out) hb)
                 have n4_ := Aside0.mk (blk_below (g := gb256) (o := .cells #[.int .i64 0, .slice none 0 0] 26 (0, 0)) (by (with_reducible repeat (first | refine blk_drewN ?_ _ | refine blk_drew ?_ | refine blk_alloc ?_ _)); exact BK256.out) hb)
                 have n5_ := Aside0.mk (below_step (by repeat (first | (with_reducible first | exact HB.out | apply below_alloc | apply pw_below_drewN | apply below_drew1 | refine below_set ?_ GE249.out | refine below_set ?_ GE256.out) | exact HB.out)) hb)
                 clear HO_9
                 clear HO247
                 clear BK249
                 clear BK256
                 clear HB
                 have HO_9 := n0_
                 have HO247 := n1_
                 have HO254 := n2_
                 have BK249 := n3_
                 have BK256 := n4_
                 have HB := n5_
                 clear n0_ n1_ n2_ n3_ n4_ n5_
                 (try clear hb)
                 (try clear hb2)
                 (try clear hk)
                 (try clear hi)
                 (try clear ho0)
                 refine hK.out _ _ ⟨(blk_cell BK249.out 0).trans rfl, (blk_cell BK249.out 1).trans rfl⟩ (fun hHeld => ?_)
                 clear hK K
                 refine norm_ (a' := ?_) ?_ ?_
                 rotate_left
                 ·show Act.put _ (some 59) _ = _
                  simp only [Act.put, List.setIfInBounds_toArray, List.set_cons_zero, List.set_cons_succ, i64_w, i32_w]
                  rfl
                 refine pure_ (i := 4) (N := some 55) (v := ?_) (a' := ?_) #[true, true, true, true, true, false, false, true, false, false] rfl rfl (any_of HT_.out (by kernel_rfl)) (fun _ _ _ h => h) (Or.inl ⟨by rfl, ?_⟩) ?_ ?_
                 rotate_left
                 ·intro w'
                  go_simp
                  with_reducible rfl
                 rotate_left
                 ·simp only [Act.put, List.setIfInBounds_toArray, List.set_cons_zero, List.set_cons_succ, i64_w, i32_w]
                  rfl
                 refine pure_ (i := 5) (N := some 60) (v := ?_) (a' := ?_) #[true, true, true, true, true, true, false, true, false, false] rfl rfl (any_of HT_.out (by kernel_rfl)) (fun _ _ _ h => h) (Or.inl ⟨by rfl, ?_⟩) ?_ ?_
                 rotate_left
                 ·intro w'
                  go_simp
                  with_reducible rfl
                 rotate_left
                 ·simp only [Act.put, List.setIfInBounds_toArray, List.set_cons_zero, List.set_cons_succ, i64_w, i32_w]
                  rfl
                 refine pure_ (i := 6) (N := some 61) (v := ?_) (a' := ?_) #[true, true, true, true, true, true, true, true, false, false] rfl rfl (any_of HT_.out (by kernel_rfl)) (fun _ _ _ h => h) (Or.inl ⟨by rfl, ?_⟩) ?_ ?_
                 rotate_left
                 ·intro w'
                  go_simp
                  with_reducible rfl
                 rotate_left
                 ·simp only [Act.put, List.setIfInBounds_toArray, List.set_cons_zero, List.set_cons_succ, i64_w, i32_w]
                  rfl
                 exact norm_ (by simp only [putAll, Act.put, List.setIfInBounds_toArray, List.set_cons_zero, List.set_cons_succ]) (hCont (v253, gb256) _ ⟨hHeld, (by (with_reducible repeat (first | apply Kd.R_alloc | apply Kd.R_drewN | apply Kd.R_drew)); exact Kd.R_mono HO247.out (fun _ hk => hk.2)), (by (with_reducible repeat (first | apply Kd.R_alloc | apply Kd.R_drewN | apply Kd.R_drew)); exact Kd.R_mono HO254.out (fun _ hk => hk.2)), (by (with_reducible repeat (first | apply Kd.N_alloc | apply Kd.N_drewN | apply Kd.N_drew)); exact Kd.N_mono HO_9.out (fun _ hk => ⟨hk.1.1.1, ⟨hk.2, ⟨hk.1.1.2, hk.1.2⟩⟩⟩)), (by (with_reducible repeat (first | refine blk_drewN ?_ _ | refine blk_drew ?_ | refine blk_alloc ?_ _)); exact BK249.out), (by (with_reducible repeat (first | refine blk_drewN ?_ _ | refine blk_drew ?_ | refine blk_alloc ?_ _)); exact BK256.out), GW256.out, GE256.out, NB249_256.out, NB256_249.out, (by repeat (first | (with_reducible first | exact HB.out | apply below_alloc | apply pw_below_drewN | apply below_drew1 | refine below_set ?_ GE249.out | refine below_set ?_ GE256.out) | exact HB.out))⟩)
               ·skip
                refine box_step ?hg (N := 15) ?hd (cs := #[.int .i64 0, .slice none 0 0]) (t := 26) ?hr ?_; (case hd => rfl); (case hg => rfl); (case hr => first | (go_simp; done) | (go_simp; rfl))
                intro gb256 hg w40 hbox hb
                have n0_ := Aside0.mk (Kd.N_below (Kd.N_elderB (by (with_reducible repeat (first | apply Kd.N_alloc | apply Kd.N_drewN | apply Kd.N_drew)); exact HO_9.out) gb256 (Nat.le_of_eq hg.symm)) hb)
                have n1_ := Aside0.mk (Kd.R_below (by (with_reducible repeat (first | apply Kd.R_alloc | apply Kd.R_drewN | apply Kd.R_drew)); exact HO247.out) hb)
                have n2_ := Aside0.mk (blk_below (g := gb249) (o := .cells #[.int .i64 t244, .slice Ao37 t245.length co37] 26 (0, 0)) (by (with_reducible repeat (first | refine blk_drewN ?_ _ | refine blk_drew ?_ | refine blk_alloc ?_ _)); exact BK249.out) hb)
                have n3_ := Aside0.mk (below_step (by repeat (first | (with_reducible first | exact HB.out | apply below_alloc | apply pw_below_drewN | apply below_drew1 | refine below_set ?_ GE249.out) | exact HB.out)) hb)
                have n4_ := Aside0.mk (hbox)
                have n5_ := Aside0.mk ((by rw [hg]; exact (below_size (by repeat (first | (with_reducible first | exact HB.out | apply below_alloc | apply pw_below_drewN | apply below_drew1 | refine below_set ?_ GE249.out) | exact HB.out))) : w.heap.size ≤ gb256))
                have n6_ := Aside0.mk ((by rw [hg]; exact (below_size (by repeat (first | (with_reducible first | exact HB.out | apply below_alloc | apply pw_below_drewN | apply below_drew1 | refine below_set ?_ GE249.out) | exact HB.out))) : w.heap.size ≤ gb256))
                have n7_ := Aside0.mk ((by rw [hg]; exact Nat.ne_of_lt (blk_lt (g := gb249) (o := .cells #[.int .i64 t244, .slice Ao37 t245.length co37] 26 (0, 0)) (by (with_reducible repeat (first | refine blk_drewN ?_ _ | refine blk_drew ?_ | refine blk_alloc ?_ _)); exact BK249.out)) : gb249 ≠ gb256))
                have n8_ := Aside0.mk ((by rw [hg]; exact Nat.ne_of_gt (blk_lt (g := gb249) (o := .cells #[.int .i64 t244, .slice Ao37 t245.length co37] 26 (0, 0)) (by (with_reducible repeat (first | refine blk_drewN ?_ _ | refine blk_drew ?_ | refine blk_alloc ?_ _)); exact BK249.out)) : gb256 ≠ gb249))
                clear HO_9
                clear HO247
                clear BK249
                clear HB
                have HO_9 := n0_
                have HO247 := n1_
                have BK249 := n2_
                have HB := n3_
                have BK256 := n4_
                have GW256 := n5_
                have GE256 := n6_
                have NB249_256 := n7_
                have NB256_249 := n8_
                clear n0_ n1_ n2_ n3_ n4_ n5_ n6_ n7_ n8_
                clear hb hbox hg
                refine hK.out _ _ ⟨(blk_cell BK249.out 0).trans rfl, (blk_cell BK249.out 1).trans rfl⟩ (fun hHeld => ?_)
                clear hK K
                refine norm_ (a' := ?_) ?_ ?_
                rotate_left
                ·show Act.put _ (some 15) _ = _
                 simp only [Act.put, List.setIfInBounds_toArray, List.set_cons_zero, List.set_cons_succ, i64_w, i32_w]
                 rfl
                refine one_ (i := 2) (N := some 58) #[true, true, true, false, false, false, false, true, false, false] rfl rfl (one_of HT_.out (by kernel_rfl)) (by decide) (fun K hK => ?_)
                refine goes_ Try.func20 (by kernel_rfl) rfl #[.int .i64 0] (by rfl) rfl rfl (by (try simp only [List.map_toArray, List.map_cons, List.map_nil]); first | done | rfl | (simp only [List.length_drop, List.length_take]; rfl)) ?_
                with_reducible refine (rootcellarlaw11_cluster.calls kj6 0 t250 _ A16.out).mono ?_
                rintro e w41 ⟨rfl, hb⟩
                refine ⟨_, rfl, ?_⟩
                have n0_ := Aside0.mk (Kd.N_below (by (with_reducible repeat (first | apply Kd.N_alloc | apply Kd.N_drewN | apply Kd.N_drew)); exact HO_9.out) hb)
                have n1_ := Aside0.mk (Kd.R_below (by (with_reducible repeat (first | apply Kd.R_alloc | apply Kd.R_drewN | apply Kd.R_drew)); exact HO247.out) hb)
                have n2_ := Aside0.mk (blk_below (g := gb249) (o := .cells #[.int .i64 t244, .slice Ao37 t245.length co37] 26 (0, 0)) (by (with_reducible repeat (first | refine blk_drewN ?_ _ | refine blk_drew ?_ | refine blk_alloc ?_ _)); exact BK249.out) hb)
                have n3_ := Aside0.mk (blk_below (g := gb256) (o := .cells #[.int .i64 0, .slice none 0 0] 26 (0, 0)) (by (with_reducible repeat (first | refine blk_drewN ?_ _ | refine blk_drew ?_ | refine blk_alloc ?_ _)); exact BK256.out) hb)
                have n4_ := Aside0.mk (below_step (by repeat (first | (with_reducible first | exact HB.out | apply below_alloc | apply pw_below_drewN | apply below_drew1 | refine below_set ?_ GE249.out | refine below_set ?_ GE256.out) | exact HB.out)) hb)
                clear HO_9
                clear HO247
                clear BK249
                clear BK256
                clear HB
                have HO_9 := n0_
                have HO247 := n1_
                have BK249 := n2_
                have BK256 := n3_
                have HB := n4_
                clear n0_ n1_ n2_ n3_ n4_
                (try clear hb)
                (try clear hb2)
                (try clear hk)
                (try clear hi)
                refine hK.out _ _ ⟨(blk_cell BK249.out 0).trans rfl, (blk_cell BK249.out 1).trans rfl⟩ (fun hHeld => ?_)
                clear hK K
                refine norm_ (a' := ?_) ?_ ?_
                rotate_left
                ·show Act.put _ (some 58) _ = _
                 simp only [Act.put, List.setIfInBounds_toArray, List.set_cons_zero, List.set_cons_succ, i64_w, i32_w]
                 rfl
                refine one_ (i := 3) (N := some 59) #[true, true, true, true, false, false, false, true, false, false] rfl rfl (one_of HT_.out (by kernel_rfl)) (by decide) (fun K hK => ?_)
                refine goes_ Try.func19 (by kernel_rfl) rfl #[.agg #[.int .i64 t244, .slice Ao37 t245.length co37], .int .i64 t241, .string t250] (by rfl) rfl rfl (by (try simp only [List.map_toArray, List.map_cons, List.map_nil]); first | done | rfl | (simp only [List.length_drop, List.length_take]; rfl)) ?_
                with_reducible refine (cell_Put.calls t244 _ _ t245 t241 t250 t251 t252 t255 _ ?side1 ?side2 A17.out).mono ?_
                (case side1 => repeat (first | exact (Kd.R_reads' HO247.out).2.2 | (with_reducible refine Kd.C_alloc ?_ _) | (with_reducible refine Kd.C_drewN ?_ _) | (with_reducible refine Kd.C_drew ?_)))
                (case side2 => exact (Kd.R_reads' HO247.out).2.1)
                rintro e w42 ⟨v253, rfl, ho0, hb⟩
                refine ⟨_, rfl, ?_⟩
                have n0_ := Aside0.mk (Kd.N_elder' (by (with_reducible repeat (first | apply Kd.N_alloc | apply Kd.N_drewN | apply Kd.N_drew)); exact HO_9.out) (Kd.R_base ho0) hb)
                have n1_ := Aside0.mk (Kd.R_elder' (by (with_reducible repeat (first | apply Kd.R_alloc | apply Kd.R_drewN | apply Kd.R_drew)); exact HO247.out) (Kd.R_base ho0) hb)
                have n2_ := Aside0.mk (Kd.R_lower (Kd.R_new' ho0 (Kd.R_lt (by (with_reducible repeat (first | apply Kd.R_alloc | apply Kd.R_drewN | apply Kd.R_drew)); exact HO247.out))) (below_size (by repeat (first | (with_reducible first | exact HB.out | apply below_alloc | apply pw_below_drewN | apply below_drew1 | refine below_set ?_ GE249.out | refine below_set ?_ GE256.out) | exact HB.out))))
                have n3_ := Aside0.mk (blk_below (g := gb249) (o := .cells #[.int .i64 t244, .slice Ao37 t245.length co37] 26 (0, 0)) (by (with_reducible repeat (first | refine blk_drewN ?_ _ | refine blk_drew ?_ | refine blk_alloc ?_ _)); exact BK249.out) hb)
                have n4_ := Aside0.mk (blk_below (g := gb256) (o := .cells #[.int .i64 0, .slice none 0 0] 26 (0, 0)) (by (with_reducible repeat (first | refine blk_drewN ?_ _ | refine blk_drew ?_ | refine blk_alloc ?_ _)); exact BK256.out) hb)
                have n5_ := Aside0.mk (below_step (by repeat (first | (with_reducible first | exact HB.out | apply below_alloc | apply pw_below_drewN | apply below_drew1 | refine below_set ?_ GE249.out | refine below_set ?_ GE256.out) | exact HB.out)) hb)
                clear HO_9
                clear HO247
                clear BK249
                clear BK256
                clear HB
                have HO_9 := n0_
                have HO247 := n1_
                have HO254 := n2_
                have BK249 := n3_
                have BK256 := n4_
                have HB := n5_
                clear n0_ n1_ n2_ n3_ n4_ n5_
                (try clear hb)
                (try clear hb2)
                (try clear hk)
                (try clear hi)
                (try clear ho0)
                refine hK.out _ _ ⟨(blk_cell BK249.out 0).trans rfl, (blk_cell BK249.out 1).trans rfl⟩ (fun hHeld => ?_)
                clear hK K
                refine norm_ (a' := ?_) ?_ ?_
                rotate_left
                ·show Act.put _ (some 59) _ = _
                 simp only [Act.put, List.setIfInBounds_toArray, List.set_cons_zero, List.set_cons_succ, i64_w, i32_w]
                 rfl
                refine pure_ (i := 4) (N := some 55) (v := ?_) (a' := ?_) #[true, true, true, true, true, false, false, true, false, false] rfl rfl (any_of HT_.out (by kernel_rfl)) (fun _ _ _ h => h) (Or.inl ⟨by rfl, ?_⟩) ?_ ?_
                rotate_left
                ·intro w'
                 go_simp
                 with_reducible rfl
                rotate_left
                ·simp only [Act.put, List.setIfInBounds_toArray, List.set_cons_zero, List.set_cons_succ, i64_w, i32_w]
                 rfl
                refine pure_ (i := 5) (N := some 60) (v := ?_) (a' := ?_) #[true, true, true, true, true, true, false, true, false, false] rfl rfl (any_of HT_.out (by kernel_rfl)) (fun _ _ _ h => h) (Or.inl ⟨by rfl, ?_⟩) ?_ ?_
                rotate_left
                ·intro w'
                 go_simp
                 with_reducible rfl
                rotate_left
                ·simp only [Act.put, List.setIfInBounds_toArray, List.set_cons_zero, List.set_cons_succ, i64_w, i32_w]
                 rfl
                refine pure_ (i := 6) (N := some 61) (v := ?_) (a' := ?_) #[true, true, true, true, true, true, true, true, false, false] rfl rfl (any_of HT_.out (by kernel_rfl)) (fun _ _ _ h => h) (Or.inl ⟨by rfl, ?_⟩) ?_ ?_
                rotate_left
                ·intro w'
                 go_simp
                 with_reducible rfl
                rotate_left
                ·simp only [Act.put, List.setIfInBounds_toArray, List.set_cons_zero, List.set_cons_succ, i64_w, i32_w]
                 rfl
                exact norm_ (by simp only [putAll, Act.put, List.setIfInBounds_toArray, List.set_cons_zero, List.set_cons_succ]) (hCont (v253, gb256) _ ⟨hHeld, (by (with_reducible repeat (first | apply Kd.R_alloc | apply Kd.R_drewN | apply Kd.R_drew)); exact Kd.R_mono HO247.out (fun _ hk => hk.2)), (by (with_reducible repeat (first | apply Kd.R_alloc | apply Kd.R_drewN | apply Kd.R_drew)); exact Kd.R_mono HO254.out (fun _ hk => hk.2)), (by (with_reducible repeat (first | apply Kd.N_alloc | apply Kd.N_drewN | apply Kd.N_drew)); exact Kd.N_mono HO_9.out (fun _ hk => ⟨hk.1.1.1, ⟨hk.2, ⟨hk.1.1.2, hk.1.2⟩⟩⟩)), (by (with_reducible repeat (first | refine blk_drewN ?_ _ | refine blk_drew ?_ | refine blk_alloc ?_ _)); exact BK249.out), (by (with_reducible repeat (first | refine blk_drewN ?_ _ | refine blk_drew ?_ | refine blk_alloc ?_ _)); exact BK256.out), GW256.out, GE256.out, NB249_256.out, NB256_249.out, (by repeat (first | (with_reducible first | exact HB.out | apply below_alloc | apply pw_below_drewN | apply below_drew1 | refine below_set ?_ GE249.out | refine below_set ?_ GE256.out) | exact HB.out))⟩)
              rintro ⟨v253, gb256⟩ w43 ⟨hS_, h0_, h1_, h2_, h3_, h4_, h5_, h6_, h7_, h8_, h9_⟩
              have n0_ : Aside0 (Kd.R k67 67 w43 w.heap.size (fun k_ => some k_ ≠ (v253 : Value).ownBlock) (.slice Ao37 t245.length co37) t245) := ⟨h0_⟩
              have n1_ : Aside0 (Kd.R k67 67 w43 w.heap.size (fun k_ => some k_ ≠ (.slice Ao37 t245.length co37 : Value).ownBlock) v253 t252) := ⟨h1_⟩
              have n2_ : Aside0 (Kd.N k32 32 w43 w.heap.size (fun k_ => some k_ ≠ (.slice Ao37 t245.length co37 : Value).ownBlock ∧ some k_ ≠ (v253 : Value).ownBlock ∧ k_ ≠ gb249 ∧ k_ ≠ gb256) (.slice Ao32 t238.length co32) t238) := ⟨h2_⟩
              have n3_ : Aside0 (w43.heap[gb249]? = some (.cells #[.int .i64 t244, .slice Ao37 t245.length co37] 26 (0, 0))) := ⟨h3_⟩
              have n4_ : Aside0 (w43.heap[gb256]? = some (.cells #[.int .i64 0, .slice none 0 0] 26 (0, 0))) := ⟨h4_⟩
              have n5_ : Aside0 (w.heap.size ≤ gb256) := ⟨h5_⟩
              have n6_ : Aside0 (w.heap.size ≤ gb256) := ⟨h6_⟩
              have n7_ : Aside0 (gb249 ≠ gb256) := ⟨h7_⟩
              have n8_ : Aside0 (gb256 ≠ gb249) := ⟨h8_⟩
              have n9_ : Aside0 (Below w.heap.size w w43) := ⟨h9_⟩
              clear HO_9
              clear HO247
              clear BK249
              clear HB
              clear h0_ h1_ h2_ h3_ h4_ h5_ h6_ h7_ h8_ h9_
              have HO247 := n0_
              have HO254 := n1_
              have HO_9 := n2_
              have BK249 := n3_
              have BK256 := n4_
              have GW256 := n5_
              have GE256 := n6_
              have NB249_256 := n7_
              have NB256_249 := n8_
              have HB := n9_
              clear n0_ n1_ n2_ n3_ n4_ n5_ n6_ n7_ n8_ n9_
              have hHeld : w43.cell? ⟨gb249, 0, none⟩ = some (.int .i64 t244) ∧ w43.cell? ⟨gb249, 1, none⟩ = some (.slice Ao37 t245.length co37) := hS_
              obtain ⟨Ao45, co45, eo45⟩ := Kd.R_slice HO254.out
              (first | subst eo45 | (injection eo45 with f1_ f2_ f3_; have f4_ := f1_.symm; have f5_ := f3_.symm; clear f1_ f2_ f3_; subst f4_; subst f5_))
              refine norm_ (a' := ?_) ?_ ?_
              rotate_left
              ·simp only [putAll, Act.put, List.setIfInBounds_toArray, List.set_cons_zero, List.set_cons_succ]
               rfl
              refine one_ (i := 8) (N := none) #[true, true, true, true, true, true, true, true, true, false] rfl rfl (one_of HT_.out (by kernel_rfl)) (by decide) (fun K hK => ?_)
              have hs44 : w43.cell? ⟨gb256, 0, none⟩ = some (.int .i64 0) := (blk_cell BK256.out 0).trans rfl
              have hfs44 := blk_frozen BK256.out 0
              have hns44_0 := NB249_256.out
              have hms44_0 := NB256_249.out
              have hs46 : w43.cell? ⟨gb256, 1, none⟩ = some (.slice none 0 0) := (blk_cell BK256.out 1).trans rfl
              have hfs46 := blk_frozen BK256.out 1
              have hns46_0 := NB249_256.out
              have hms46_0 := NB256_249.out
              refine skip_ (w1 := ?_) (by rfl) rfl ?_ ?_
              rotate_left
              ·go_simp
               rfl
              refine hK.out _ _ ⟨((cell_far (p := ⟨gb256, _, none⟩) NB249_256.out _).trans (((cell_far (p := ⟨gb256, _, none⟩) NB249_256.out _).trans (hHeld.1)))), ((cell_far (p := ⟨gb256, _, none⟩) NB249_256.out _).trans (((cell_far (p := ⟨gb256, _, none⟩) NB249_256.out _).trans (hHeld.2))))⟩ (fun hHeld => ?_)
              clear hK K
              refine pure_ (i := 9) (N := some 16) (v := ?_) (a' := ?_) #[true, true, true, true, true, true, true, true, true, true] rfl rfl (any_of HT_.out (by kernel_rfl)) (fun _ _ _ h => h) (Or.inl ⟨by rfl, ?_⟩) ?_ ?_
              rotate_left
              ·intro w'
               go_simp
               with_reducible rfl
              rotate_left
              ·simp only [Act.put, List.setIfInBounds_toArray, List.set_cons_zero, List.set_cons_succ, i64_w, i32_w]
               rfl
              refine done_ (done_of HT_.out (by kernel_rfl)) ?_
              have hnb47 := NB256_249.out
              have hnc47 := NB249_256.out
              have hcz48_0 : w43.cell? ⟨gb256, 0, none⟩ = some (.int .i64 0) := (blk_cell BK256.out 0).trans rfl
              have hcz48_1 : w43.cell? ⟨gb256, 1, none⟩ = some (.slice none 0 0) := (blk_cell BK256.out 1).trans rfl
              have hfz48_0 := blk_frozen BK256.out 0
              have hfz48_1 := blk_frozen BK256.out 1
              try go_wp2_with (first | ((with_reducible refine gate_callee (f := 24) rfl ?_); refine goesL_ (some 65) rfl rfl Try.func24 (by kernel_rfl) rfl #[.agg #[.int .i64 t251, .slice Ao45 t252.length co45], .int .i64 t241] rfl (by (try simp only [List.map_toArray, List.map_cons, List.map_nil]); first | done | rfl | (simp only [List.length_drop, List.length_take]; rfl)) ?_; (with_reducible refine (cell_Drop.calls t251 _ _ t252 t241 t257 t258 t261 _ ?side1 ?side2 A18.out).mono ?_); (case side1 => refine (Kd.R_reads' (e := 67) (base := w.heap.size) (ok := fun k_ => some k_ ≠ (.slice Ao37 t245.length co37 : Value).ownBlock) (n := t252.length) (c := co45) ?_).2.2; exact (by (with_reducible repeat (first | apply Kd.R_alloc | apply Kd.R_drewN | apply Kd.R_drew)); exact (Kd.R_mono (Kd.R_far (p := ⟨gb256, 1, none⟩) (Kd.R_far (p := ⟨gb256, 0, none⟩) (Kd.R_types HO254.out BK256.out (by decide)) (fun _ hk => hk.2) (.int .i64 t251)) (fun _ hk => hk.2) (.slice Ao45 t252.length co45)) (fun _ h_ => h_.1)))); (case side2 => exact (Kd.R_reads' HO254.out).2.1); rintro e w49 ⟨v259, rfl, ho0, hb⟩; refine ⟨_, rfl, ?_⟩; have n0_ := Aside0.mk (Kd.N_elder' (by (with_reducible repeat (first | apply Kd.N_alloc | apply Kd.N_drewN | apply Kd.N_drew)); exact (Kd.N_mono (Kd.N_far (p := ⟨gb256, 1, none⟩) (Kd.N_far (p := ⟨gb256, 0, none⟩) (Kd.N_mono HO_9.out (fun k_ hk => (⟨hk, hk.2.2.2⟩ : _ ∧ k_ ≠ gb256))) (fun _ hk => hk.2) (.int .i64 t251)) (fun _ hk => hk.2) (.slice Ao45 t252.length co45)) (fun _ h_ => h_.1))) (Kd.R_base ho0) hb); have n1_ := Aside0.mk (Kd.R_elder' (by (with_reducible repeat (first | apply Kd.R_alloc | apply Kd.R_drewN | apply Kd.R_drew)); exact (Kd.R_mono (Kd.R_far (p := ⟨gb256, 1, none⟩) (Kd.R_far (p := ⟨gb256, 0, none⟩) (Kd.R_types HO247.out BK256.out (by decide)) (fun _ hk => hk.2) (.int .i64 t251)) (fun _ hk => hk.2) (.slice Ao45 t252.length co45)) (fun _ h_ => h_.1))) (Kd.R_base ho0) hb); have n2_ := Aside0.mk (Kd.R_elder' (by (with_reducible repeat (first | apply Kd.R_alloc | apply Kd.R_drewN | apply Kd.R_drew)); exact (Kd.R_mono (Kd.R_far (p := ⟨gb256, 1, none⟩) (Kd.R_far (p := ⟨gb256, 0, none⟩) (Kd.R_types HO254.out BK256.out (by decide)) (fun _ hk => hk.2) (.int .i64 t251)) (fun _ hk => hk.2) (.slice Ao45 t252.length co45)) (fun _ h_ => h_.1))) (Kd.R_base ho0) hb); have n3_ := Aside0.mk (Kd.R_lower (Kd.R_new' (Kd.R_new' ho0 (Kd.R_lt (by (with_reducible repeat (first | apply Kd.R_alloc | apply Kd.R_drewN | apply Kd.R_drew)); exact (Kd.R_mono (Kd.R_far (p := ⟨gb256, 1, none⟩) (Kd.R_far (p := ⟨gb256, 0, none⟩) (Kd.R_types HO247.out BK256.out (by decide)) (fun _ hk => hk.2) (.int .i64 t251)) (fun _ hk => hk.2) (.slice Ao45 t252.length co45)) (fun _ h_ => h_.1))))) (Kd.R_lt (by (with_reducible repeat (first | apply Kd.R_alloc | apply Kd.R_drewN | apply Kd.R_drew)); exact (Kd.R_mono (Kd.R_far (p := ⟨gb256, 1, none⟩) (Kd.R_far (p := ⟨gb256, 0, none⟩) (Kd.R_types HO254.out BK256.out (by decide)) (fun _ hk => hk.2) (.int .i64 t251)) (fun _ hk => hk.2) (.slice Ao45 t252.length co45)) (fun _ h_ => h_.1))))) (below_size (by repeat (first | (with_reducible first | exact HB.out | apply below_alloc | apply pw_below_drewN | apply below_drew1 | refine below_set ?_ GE249.out | refine below_set ?_ GE256.out) | exact HB.out)))); have n4_ := Aside0.mk (blk_below (g := gb249) (o := .cells #[.int .i64 t244, .slice Ao37 t245.length co37] 26 (0, 0)) (by (with_reducible repeat (first | refine blk_drewN ?_ _ | refine blk_drew ?_ | refine blk_alloc ?_ _)); refine blk_far ?_ NB249_256.out _; (with_reducible repeat (first | refine blk_drewN ?_ _ | refine blk_drew ?_ | refine blk_alloc ?_ _)); refine blk_far ?_ NB249_256.out _; (with_reducible repeat (first | refine blk_drewN ?_ _ | refine blk_drew ?_ | refine blk_alloc ?_ _)); exact BK249.out) hb); have n5_ := Aside0.mk (blk_below (g := gb256) (o := .cells #[.int .i64 t251, .slice Ao45 t252.length co45] 26 (0, 0)) (by (with_reducible repeat (first | refine blk_drewN ?_ _ | refine blk_drew ?_ | refine blk_alloc ?_ _)); refine blk_put (cs := #[.int .i64 t251, .slice none 0 0]) ?_ 1 _ rfl; (with_reducible repeat (first | refine blk_drewN ?_ _ | refine blk_drew ?_ | refine blk_alloc ?_ _)); refine blk_put (cs := #[.int .i64 0, .slice none 0 0]) ?_ 0 _ rfl; (with_reducible repeat (first | refine blk_drewN ?_ _ | refine blk_drew ?_ | refine blk_alloc ?_ _)); exact BK256.out) hb); have n6_ := Aside0.mk (below_step (by repeat (first | (with_reducible first | exact HB.out | apply below_alloc | apply pw_below_drewN | apply below_drew1 | refine below_set ?_ GE249.out | refine below_set ?_ GE256.out) | exact HB.out)) hb); clear HO_9; clear HO247; clear HO254; clear BK249; clear BK256; clear HB; have HO_9 := n0_; have HO247 := n1_; have HO254 := n2_; have HO260 := n3_; have BK249 := n4_; have BK256 := n5_; have HB := n6_; clear n0_ n1_ n2_ n3_ n4_ n5_ n6_; (try clear hb); (try clear hb2); (try clear hk); (try clear hi); (try clear ho0)) | ((with_reducible refine gate_dst (N := 17) rfl ?_); (try (refine gate_guard (by rfl) ?_; dsimp only)); refine box_event ?hg (N := 17) ?hd (cs := #[.int .i64 0, .slice none 0 0]) (t := 26) ?hr ?_; (case hd => rfl); (case hg => rfl); (case hr => first | (go_simp; done) | (go_simp; rfl)); intro gb262 hg w50 hbox hb; have n0_ := Aside0.mk (Kd.N_below (Kd.N_elderB (by (with_reducible repeat (first | apply Kd.N_alloc | apply Kd.N_drewN | apply Kd.N_drew)); exact HO_9.out) gb262 (Nat.le_of_eq hg.symm)) hb); have n1_ := Aside0.mk (Kd.R_below (by (with_reducible repeat (first | apply Kd.R_alloc | apply Kd.R_drewN | apply Kd.R_drew)); exact HO247.out) hb); have n2_ := Aside0.mk (Kd.R_below (by (with_reducible repeat (first | apply Kd.R_alloc | apply Kd.R_drewN | apply Kd.R_drew)); exact HO254.out) hb); have n3_ := Aside0.mk (Kd.R_below (by (with_reducible repeat (first | apply Kd.R_alloc | apply Kd.R_drewN | apply Kd.R_drew)); exact HO260.out) hb); have n4_ := Aside0.mk (blk_below (g := gb249) (o := .cells #[.int .i64 t244, .slice Ao37 t245.length co37] 26 (0, 0)) (by (with_reducible repeat (first | refine blk_drewN ?_ _ | refine blk_drew ?_ | refine blk_alloc ?_ _)); exact BK249.out) hb); have n5_ := Aside0.mk (blk_below (g := gb256) (o := .cells #[.int .i64 t251, .slice Ao45 t252.length co45] 26 (0, 0)) (by (with_reducible repeat (first | refine blk_drewN ?_ _ | refine blk_drew ?_ | refine blk_alloc ?_ _)); exact BK256.out) hb); have n6_ := Aside0.mk (below_step (by repeat (first | (with_reducible first | exact HB.out | apply below_alloc | apply pw_below_drewN | apply below_drew1 | refine below_set ?_ GE249.out | refine below_set ?_ GE256.out) | exact HB.out)) hb); have n7_ := Aside0.mk (hbox); have n8_ := Aside0.mk ((by rw [hg]; exact (below_size (by repeat (first | (with_reducible first | exact HB.out | apply below_alloc | apply pw_below_drewN | apply below_drew1 | refine below_set ?_ GE249.out | refine below_set ?_ GE256.out) | exact HB.out))) : w.heap.size ≤ gb262)); have n9_ := Aside0.mk ((by rw [hg]; exact (below_size (by repeat (first | (with_reducible first | exact HB.out | apply below_alloc | apply pw_below_drewN | apply below_drew1 | refine below_set ?_ GE249.out | refine below_set ?_ GE256.out) | exact HB.out))) : w.heap.size ≤ gb262)); have n10_ := Aside0.mk ((by rw [hg]; exact Nat.ne_of_lt (blk_lt (g := gb249) (o := .cells #[.int .i64 t244, .slice Ao37 t245.length co37] 26 (0, 0)) (by (with_reducible repeat (first | refine blk_drewN ?_ _ | refine blk_drew ?_ | refine blk_alloc ?_ _)); exact BK249.out)) : gb249 ≠ gb262)); have n11_ := Aside0.mk ((by rw [hg]; exact Nat.ne_of_gt (blk_lt (g := gb249) (o := .cells #[.int .i64 t244, .slice Ao37 t245.length co37] 26 (0, 0)) (by (with_reducible repeat (first | refine blk_drewN ?_ _ | refine blk_drew ?_ | refine blk_alloc ?_ _)); exact BK249.out)) : gb262 ≠ gb249)); have n12_ := Aside0.mk ((by rw [hg]; exact Nat.ne_of_lt (blk_lt (g := gb256) (o := .cells #[.int .i64 t251, .slice Ao45 t252.length co45] 26 (0, 0)) (by (with_reducible repeat (first | refine blk_drewN ?_ _ | refine blk_drew ?_ | refine blk_alloc ?_ _)); exact BK256.out)) : gb256 ≠ gb262)); have n13_ := Aside0.mk ((by rw [hg]; exact Nat.ne_of_gt (blk_lt (g := gb256) (o := .cells #[.int .i64 t251, .slice Ao45 t252.length co45] 26 (0, 0)) (by (with_reducible repeat (first | refine blk_drewN ?_ _ | refine blk_drew ?_ | refine blk_alloc ?_ _)); exact BK256.out)) : gb262 ≠ gb256)); clear HO_9; clear HO247; clear HO254; clear HO260; clear BK249; clear BK256; clear HB; have HO_9 := n0_; have HO247 := n1_; have HO254 := n2_; have HO260 := n3_; have BK249 := n4_; have BK256 := n5_; have HB := n6_; have BK262 := n7_; have GW262 := n8_; have GE262 := n9_; have NB249_262 := n10_; have NB262_249 := n11_; have NB256_262 := n12_; have NB262_256 := n13_; clear n0_ n1_ n2_ n3_ n4_ n5_ n6_ n7_ n8_ n9_ n10_ n11_ n12_ n13_; clear hb hbox hg; have hnb51 := NB262_249.out; have hnc51 := NB249_262.out; have hnb52 := NB262_256.out; have hnc52 := NB256_262.out; have hcz53_0 : w50.cell? ⟨gb262, 0, none⟩ = some (.int .i64 0) := (blk_cell BK262.out 0).trans rfl; have hcz53_1 : w50.cell? ⟨gb262, 1, none⟩ = some (.slice none 0 0) := (blk_cell BK262.out 1).trans rfl; have hfz53_0 := blk_frozen BK262.out 0; have hfz53_1 := blk_frozen BK262.out 1; obtain ⟨Ao54, co54, eo54⟩ := Kd.R_slice HO260.out; subst eo54))
              have n0_ : Aside0 (Kd.N k32 32 ((w50.setCell ⟨gb262, 0, none⟩ (.int .i64 t257)).setCell ⟨gb262, 1, none⟩ (.slice Ao54 t258.length co54)) w.heap.size (fun k_ => some k_ ≠ (.slice Ao37 t245.length co37 : Value).ownBlock ∧ some k_ ≠ (.slice Ao45 t252.length co45 : Value).ownBlock ∧ some k_ ≠ (.slice Ao54 t258.length co54 : Value).ownBlock ∧ k_ ≠ gb249 ∧ k_ ≠ gb256 ∧ k_ ≠ gb262) (.slice Ao32 t238.length co32) t238) := ⟨by (with_reducible repeat (first | apply Kd.N_alloc | apply Kd.N_drewN | apply Kd.N_drew)); exact Kd.N_mono (Kd.N_far (p := ⟨gb262, 1, none⟩) (Kd.N_far (p := ⟨gb262, 0, none⟩) (Kd.N_mono HO_9.out (fun k_ hk => (⟨hk, hk.2⟩ : _ ∧ k_ ≠ gb262))) (fun _ hk => hk.2) (.int .i64 t257)) (fun _ hk => hk.2) (.slice Ao54 t258.length co54)) (fun _ hk => ⟨hk.1.1.1.1, ⟨hk.1.1.1.2.1, ⟨hk.1.1.2, ⟨hk.1.1.1.2.2.1, ⟨hk.1.1.1.2.2.2, hk.1.2⟩⟩⟩⟩⟩)⟩
              have n1_ : Aside0 (Kd.R k67 67 ((w50.setCell ⟨gb262, 0, none⟩ (.int .i64 t257)).setCell ⟨gb262, 1, none⟩ (.slice Ao54 t258.length co54)) w.heap.size (fun k_ => some k_ ≠ (.slice Ao45 t252.length co45 : Value).ownBlock ∧ some k_ ≠ (.slice Ao54 t258.length co54 : Value).ownBlock) (.slice Ao37 t245.length co37) t245) := ⟨by (with_reducible repeat (first | apply Kd.R_alloc | apply Kd.R_drewN | apply Kd.R_drew)); exact Kd.R_mono (Kd.R_far (p := ⟨gb262, 1, none⟩) (Kd.R_far (p := ⟨gb262, 0, none⟩) (Kd.R_types HO247.out BK262.out (by decide)) (fun _ hk => hk.2) (.int .i64 t257)) (fun _ hk => hk.2) (.slice Ao54 t258.length co54)) (fun _ hk => ⟨hk.1.1, hk.1.2⟩)⟩
              have n2_ : Aside0 (Kd.R k67 67 ((w50.setCell ⟨gb262, 0, none⟩ (.int .i64 t257)).setCell ⟨gb262, 1, none⟩ (.slice Ao54 t258.length co54)) w.heap.size (fun k_ => some k_ ≠ (.slice Ao37 t245.length co37 : Value).ownBlock ∧ some k_ ≠ (.slice Ao54 t258.length co54 : Value).ownBlock) (.slice Ao45 t252.length co45) t252) := ⟨by (with_reducible repeat (first | apply Kd.R_alloc | apply Kd.R_drewN | apply Kd.R_drew)); exact Kd.R_mono (Kd.R_far (p := ⟨gb262, 1, none⟩) (Kd.R_far (p := ⟨gb262, 0, none⟩) (Kd.R_types HO254.out BK262.out (by decide)) (fun _ hk => hk.2) (.int .i64 t257)) (fun _ hk => hk.2) (.slice Ao54 t258.length co54)) (fun _ hk => ⟨hk.1.1, hk.1.2⟩)⟩
              have n3_ : Aside0 (Kd.R k67 67 ((w50.setCell ⟨gb262, 0, none⟩ (.int .i64 t257)).setCell ⟨gb262, 1, none⟩ (.slice Ao54 t258.length co54)) w.heap.size (fun k_ => some k_ ≠ (.slice Ao37 t245.length co37 : Value).ownBlock ∧ some k_ ≠ (.slice Ao45 t252.length co45 : Value).ownBlock) (.slice Ao54 t258.length co54) t258) := ⟨by (with_reducible repeat (first | apply Kd.R_alloc | apply Kd.R_drewN | apply Kd.R_drew)); exact Kd.R_mono (Kd.R_far (p := ⟨gb262, 1, none⟩) (Kd.R_far (p := ⟨gb262, 0, none⟩) (Kd.R_types HO260.out BK262.out (by decide)) (fun _ hk => hk.2) (.int .i64 t257)) (fun _ hk => hk.2) (.slice Ao54 t258.length co54)) (fun _ hk => ⟨hk.1.1.2, hk.1.2⟩)⟩
              have n4_ : Aside0 (((w50.setCell ⟨gb262, 0, none⟩ (.int .i64 t257)).setCell ⟨gb262, 1, none⟩ (.slice Ao54 t258.length co54)).heap[gb249]? = some (.cells #[.int .i64 t244, .slice Ao37 t245.length co37] 26 (0, 0))) := ⟨by (with_reducible repeat (first | refine blk_drewN ?_ _ | refine blk_drew ?_ | refine blk_alloc ?_ _)); refine blk_far ?_ NB249_262.out _; (with_reducible repeat (first | refine blk_drewN ?_ _ | refine blk_drew ?_ | refine blk_alloc ?_ _)); refine blk_far ?_ NB249_262.out _; (with_reducible repeat (first | refine blk_drewN ?_ _ | refine blk_drew ?_ | refine blk_alloc ?_ _)); exact BK249.out⟩
              have n5_ : Aside0 (((w50.setCell ⟨gb262, 0, none⟩ (.int .i64 t257)).setCell ⟨gb262, 1, none⟩ (.slice Ao54 t258.length co54)).heap[gb256]? = some (.cells #[.int .i64 t251, .slice Ao45 t252.length co45] 26 (0, 0))) := ⟨by (with_reducible repeat (first | refine blk_drewN ?_ _ | refine blk_drew ?_ | refine blk_alloc ?_ _)); refine blk_far ?_ NB256_262.out _; (with_reducible repeat (first | refine blk_drewN ?_ _ | refine blk_drew ?_ | refine blk_alloc ?_ _)); refine blk_far ?_ NB256_262.out _; (with_reducible repeat (first | refine blk_drewN ?_ _ | refine blk_drew ?_ | refine blk_alloc ?_ _)); exact BK256.out⟩
              have n6_ : Aside0 (((w50.setCell ⟨gb262, 0, none⟩ (.int .i64 t257)).setCell ⟨gb262, 1, none⟩ (.slice Ao54 t258.length co54)).heap[gb262]? = some (.cells #[.int .i64 t257, .slice Ao54 t258.length co54] 26 (0, 0))) := ⟨by (with_reducible repeat (first | refine blk_drewN ?_ _ | refine blk_drew ?_ | refine blk_alloc ?_ _)); refine blk_put (cs := #[.int .i64 t257, .slice none 0 0]) ?_ 1 _ rfl; (with_reducible repeat (first | refine blk_drewN ?_ _ | refine blk_drew ?_ | refine blk_alloc ?_ _)); refine blk_put (cs := #[.int .i64 0, .slice none 0 0]) ?_ 0 _ rfl; (with_reducible repeat (first | refine blk_drewN ?_ _ | refine blk_drew ?_ | refine blk_alloc ?_ _)); exact BK262.out⟩
              have n7_ : Aside0 (Below w.heap.size w ((w50.setCell ⟨gb262, 0, none⟩ (.int .i64 t257)).setCell ⟨gb262, 1, none⟩ (.slice Ao54 t258.length co54))) := ⟨by repeat (first | (with_reducible first | exact HB.out | apply below_alloc | apply pw_below_drewN | apply below_drew1 | refine below_set ?_ GE249.out | refine below_set ?_ GE256.out | refine below_set ?_ GE262.out) | exact HB.out)⟩
              (try clear HO_9)
              (try clear HO247)
              (try clear HO254)
              (try clear HO260)
              (try clear BK249)
              (try clear BK256)
              (try clear BK262)
              (try clear HB)
              generalize ((w50.setCell ⟨gb262, 0, none⟩ (.int .i64 t257)).setCell ⟨gb262, 1, none⟩ (.slice Ao54 t258.length co54)) = w55 at n0_ n1_ n2_ n3_ n4_ n5_ n6_ n7_ ⊢
              have HO_9 := n0_
              have HO247 := n1_
              have HO254 := n2_
              have HO260 := n3_
              have BK249 := n4_
              have BK256 := n5_
              have BK262 := n6_
              have HB := n7_
              clear n0_ n1_ n2_ n3_ n4_ n5_ n6_ n7_
              have n0_ := Aside0.mk (Kd.N_drew HO_9.out)
              have n1_ := Aside0.mk (Kd.R_drew HO247.out)
              have n2_ := Aside0.mk (Kd.R_drew HO254.out)
              have n3_ := Aside0.mk (Kd.R_drew HO260.out)
              have n4_ := Aside0.mk (blk_drew BK249.out)
              have n5_ := Aside0.mk (blk_drew BK256.out)
              have n6_ := Aside0.mk (blk_drew BK262.out)
              have n7_ := Aside0.mk (below_drew1 HB.out)
              clear HO_9
              clear HO247
              clear HO254
              clear HO260
              clear BK249
              clear BK256
              clear BK262
              clear HB
              have HO_9 := n0_
              have HO247 := n1_
              have HO254 := n2_
              have HO260 := n3_
              have BK249 := n4_
              have BK256 := n5_
              have BK262 := n6_
              have HB := n7_
              clear n0_ n1_ n2_ n3_ n4_ n5_ n6_ n7_
              refine start_ (n := 19) (S := fun w' => w'.cell? ⟨gb256, 0, none⟩ = some (.int .i64 t251) ∧ w'.cell? ⟨gb256, 1, none⟩ = some (.slice Ao45 t252.length co45)) (ds := []) #[false, false, false, false, false, false, false, false, false, false, false, false, false, false, false, false, false, false, false] (by kernel_rfl) rfl rfl ⟨(blk_cell BK256.out 0).trans rfl, (blk_cell BK256.out 1).trans rfl⟩ (fun hHeld => ?_); refine with_tabW rootcellarlaw11_ChainMarks.tab12 rootcellarlaw11_ChainMarks.bits12 (fun HT_ HW_ => ?_)
              generalize w55.drew = w56 at HO_9 HO247 HO254 HO260 BK249 BK256 BK262 HB hHeld ⊢
              refine pure_ (i := 1) (N := some 70) (v := ?_) (a' := ?_) #[false, true, false, false, false, false, false, false, false, false, false, false, false, false, false, false, false, false, false] rfl rfl (any_of HT_.out (by kernel_rfl)) (fun _ _ _ h => h) (Or.inl ⟨by rfl, ?_⟩) ?_ ?_
              rotate_left
              ·intro w'
               go_simp
               with_reducible rfl
              rotate_left
              ·simp only [Act.put, List.setIfInBounds_toArray, List.set_cons_zero, List.set_cons_succ, i64_w, i32_w]
               rfl
              refine pure_ (i := 3) (N := some 72) (v := ?_) (a' := ?_) #[false, true, false, true, false, false, false, false, false, false, false, false, false, false, false, false, false, false, false] rfl rfl (any_of HT_.out (by kernel_rfl)) (fun _ _ _ h => h) (Or.inl ⟨by rfl, ?_⟩) ?_ ?_
              rotate_left
              ·intro w'
               go_simp
               with_reducible rfl
              rotate_left
              ·simp only [Act.put, List.setIfInBounds_toArray, List.set_cons_zero, List.set_cons_succ, i64_w, i32_w]
               rfl
              refine pure_ (i := 4) (N := some 73) (v := ?_) (a' := ?_) #[false, true, false, true, true, false, false, false, false, false, false, false, false, false, false, false, false, false, false] rfl rfl (any_of HT_.out (by kernel_rfl)) (fun _ _ _ h => h) (Or.inl ⟨by rfl, ?_⟩) ?_ ?_
              rotate_left
              ·intro w'
               go_simp
               with_reducible rfl
              rotate_left
              ·simp only [Act.put, List.setIfInBounds_toArray, List.set_cons_zero, List.set_cons_succ, i64_w, i32_w]
               rfl
              refine pure_ (i := 5) (N := some 74) (v := ?_) (a' := ?_) #[false, true, false, true, true, true, false, false, false, false, false, false, false, false, false, false, false, false, false] rfl rfl (any_of HT_.out (by kernel_rfl)) (fun _ _ _ h => h) (Or.inl ⟨by rfl, ?_⟩) ?_ ?_
              rotate_left
              ·intro w'
               go_simp
               with_reducible rfl
              rotate_left
              ·simp only [Act.put, List.setIfInBounds_toArray, List.set_cons_zero, List.set_cons_succ, i64_w, i32_w]
               rfl
              refine pure_ (i := 10) (N := some 79) (v := ?_) (a' := ?_) #[false, true, false, true, true, true, false, false, false, false, true, false, false, false, false, false, false, false, false] rfl rfl (any_of HT_.out (by kernel_rfl)) (fun _ _ _ h => h) (Or.inl ⟨by rfl, ?_⟩) ?_ ?_
              rotate_left
              ·intro w'
               go_simp
               with_reducible rfl
              rotate_left
              ·simp only [Act.put, List.setIfInBounds_toArray, List.set_cons_zero, List.set_cons_succ, i64_w, i32_w]
               rfl
              refine pure_ (i := 11) (N := some 80) (v := ?_) (a' := ?_) #[false, true, false, true, true, true, false, false, false, false, true, true, false, false, false, false, false, false, false] rfl rfl (any_of HT_.out (by kernel_rfl)) (fun _ _ _ h => h) (Or.inl ⟨by rfl, ?_⟩) ?_ ?_
              rotate_left
              ·intro w'
               go_simp
               with_reducible rfl
              rotate_left
              ·simp only [Act.put, List.setIfInBounds_toArray, List.set_cons_zero, List.set_cons_succ, i64_w, i32_w]
               rfl
              refine pure_ (i := 12) (N := some 81) (v := ?_) (a' := ?_) #[false, true, false, true, true, true, false, false, false, false, true, true, true, false, false, false, false, false, false] rfl rfl (any_of HT_.out (by kernel_rfl)) (fun _ _ _ h => h) (Or.inl ⟨by rfl, ?_⟩) ?_ ?_
              rotate_left
              ·intro w'
               go_simp
               with_reducible rfl
              rotate_left
              ·simp only [Act.put, List.setIfInBounds_toArray, List.set_cons_zero, List.set_cons_succ, i64_w, i32_w]
               rfl
              refine take_ (i := 6) (N := some 75) (v := ?_) (a' := ?_) #[false, true, false, true, true, true, true, false, false, false, true, true, true, false, false, false, false, false, false] rfl rfl (take_ofW HT_.out HW_.out (by kernel_rfl)) (fun _ _ _ h => h) (Or.inl ⟨by rfl, ?_⟩) hHeld ?_ ?_
              rotate_left
              ·rintro w' ⟨s0, s1⟩
               go_simp
               with_reducible rfl
              rotate_left
              ·simp only [Act.put, List.setIfInBounds_toArray, List.set_cons_zero, List.set_cons_succ, i64_w, i32_w]
               rfl
              refine pure_ (i := 7) (N := some 76) (v := ?_) (a' := ?_) #[false, true, false, true, true, true, true, true, false, false, true, true, true, false, false, false, false, false, false] rfl rfl (any_of HT_.out (by kernel_rfl)) (fun _ _ _ h => h) (Or.inl ⟨by rfl, ?_⟩) ?_ ?_
              rotate_left
              ·intro w'
               go_simp
               with_reducible rfl
              rotate_left
              ·simp only [Act.put, List.setIfInBounds_toArray, List.set_cons_zero, List.set_cons_succ, i64_w, i32_w]
               rfl
              refine join_ (σ := Value × Value × Value) 7 #[true, true, true, true, true, true, true, true, true, false, true, true, true, false, false, false, false, false, false] (fun s_ => [(69, s_.1), (71, s_.2.1), (77, s_.2.2)]) (fun s_ w' => (w'.cell? ⟨gb256, 0, none⟩ = some (.int .i64 t251) ∧ w'.cell? ⟨gb256, 1, none⟩ = some (.slice Ao45 t252.length co45)) ∧ (Kd.R k67 67 w' w.heap.size (fun k_ => some k_ ≠ (.slice Ao54 t258.length co54 : Value).ownBlock) (.slice Ao37 t245.length co37) t245) ∧ (Kd.R k67 67 w' w.heap.size (fun k_ => some k_ ≠ (.slice Ao37 t245.length co37 : Value).ownBlock) (.slice Ao54 t258.length co54) t258) ∧ (Kd.N k32 32 w' w.heap.size (fun k_ => some k_ ≠ (.slice Ao37 t245.length co37 : Value).ownBlock ∧ some k_ ≠ (.slice Ao54 t258.length co54 : Value).ownBlock ∧ some k_ ≠ (s_.2.2 : Value).ownBlock ∧ k_ ≠ gb249 ∧ k_ ≠ gb256 ∧ k_ ≠ gb262) s_.2.1 y266) ∧ (Kd.N k32 32 w' w.heap.size (fun k_ => some k_ ≠ (.slice Ao37 t245.length co37 : Value).ownBlock ∧ some k_ ≠ (.slice Ao54 t258.length co54 : Value).ownBlock ∧ some k_ ≠ (s_.2.1 : Value).ownBlock ∧ some k_ ≠ (.slice Ao32 t238.length co32 : Value).ownBlock ∧ k_ ≠ gb249 ∧ k_ ≠ gb256 ∧ k_ ≠ gb262) s_.2.2 y269) ∧ (Kd.N k32 32 w' w.heap.size (fun k_ => some k_ ≠ (.slice Ao37 t245.length co37 : Value).ownBlock ∧ some k_ ≠ (.slice Ao54 t258.length co54 : Value).ownBlock ∧ some k_ ≠ (s_.2.1 : Value).ownBlock ∧ some k_ ≠ (s_.2.2 : Value).ownBlock ∧ k_ ≠ gb249 ∧ k_ ≠ gb256 ∧ k_ ≠ gb262) (.slice Ao32 t238.length co32) t238) ∧ (w'.heap[gb249]? = some (.cells #[.int .i64 t244, .slice Ao37 t245.length co37] 26 (0, 0))) ∧ (w'.heap[gb256]? = some (.cells #[.int .i64 t251, .slice Ao45 t252.length co45] 26 (0, 0))) ∧ (w'.heap[gb262]? = some (.cells #[.int .i64 t257, .slice Ao54 t258.length co54] 26 (0, 0))) ∧ (Below w.heap.size w w')) ?_ ?_
              rotate_left
              ·intro hCont
               refine two_ (i := 0) (j := 8) (Ni := some 69) (Nj := some 77) #[true, true, false, true, true, true, true, true, false, false, true, true, true, false, false, false, false, false, false] #[false, true, false, true, true, true, true, true, true, false, true, true, true, false, false, false, false, false, false] rfl rfl rfl rfl (two_of HT_.out (by kernel_rfl)) (by decide) (by decide) (fun K hK => ?_) (fun K hK => ?_)
               ·skip
                refine Kd.N_lit_step k32 _ 32 ?hg (N' := 69) ?hd (xs := ([] : List (S32))) (inner := []) (ok := (fun k_ => some k_ ≠ (.slice Ao32 t238.length co32 : Value).ownBlock ∧ some k_ ≠ (.slice Ao37 t245.length co37 : Value).ownBlock ∧ some k_ ≠ (.slice Ao45 t252.length co45 : Value).ownBlock ∧ some k_ ≠ (.slice Ao54 t258.length co54 : Value).ownBlock ∧ k_ ≠ gb249 ∧ k_ ≠ gb256 ∧ k_ ≠ gb262)) (okp := (fun k_ => some k_ ≠ (.slice Ao32 t238.length co32 : Value).ownBlock ∧ some k_ ≠ (.slice Ao37 t245.length co37 : Value).ownBlock ∧ some k_ ≠ (.slice Ao45 t252.length co45 : Value).ownBlock ∧ some k_ ≠ (.slice Ao54 t258.length co54 : Value).ownBlock ∧ k_ ≠ gb249 ∧ k_ ≠ gb256 ∧ k_ ≠ gb262)) ?hr ?hp (fun _ hk => hk) ((show ∀ k_, w56.heap.size ≤ k_ → (fun k_ => some k_ ≠ (.slice Ao32 t238.length co32 : Value).ownBlock ∧ some k_ ≠ (.slice Ao37 t245.length co37 : Value).ownBlock ∧ some k_ ≠ (.slice Ao45 t252.length co45 : Value).ownBlock ∧ some k_ ≠ (.slice Ao54 t258.length co54 : Value).ownBlock ∧ k_ ≠ gb249 ∧ k_ ≠ gb256 ∧ k_ ≠ gb262) k_ from fun k_ hk => ⟨Kd.fresh' (Kd.N_lt (by (with_reducible repeat (first | apply Kd.N_alloc | apply Kd.N_drewN | apply Kd.N_drew)); exact HO_9.out)) k_ hk, Kd.fresh' (Kd.R_lt (by (with_reducible repeat (first | apply Kd.R_alloc | apply Kd.R_drewN | apply Kd.R_drew)); exact HO247.out)) k_ hk, Kd.fresh' (Kd.R_lt (by (with_reducible repeat (first | apply Kd.R_alloc | apply Kd.R_drewN | apply Kd.R_drew)); exact HO254.out)) k_ hk, Kd.fresh' (Kd.R_lt (by (with_reducible repeat (first | apply Kd.R_alloc | apply Kd.R_drewN | apply Kd.R_drew)); exact HO260.out)) k_ hk, Kd.freshB (g := gb249) (o := .cells #[.int .i64 t244, .slice Ao37 t245.length co37] 26 (0, 0)) (by (with_reducible repeat (first | refine blk_drewN ?_ _ | refine blk_drew ?_ | refine blk_alloc ?_ _)); exact BK249.out) k_ hk, Kd.freshB (g := gb256) (o := .cells #[.int .i64 t251, .slice Ao45 t252.length co45] 26 (0, 0)) (by (with_reducible repeat (first | refine blk_drewN ?_ _ | refine blk_drew ?_ | refine blk_alloc ?_ _)); exact BK256.out) k_ hk, Kd.freshB (g := gb262) (o := .cells #[.int .i64 t257, .slice Ao54 t258.length co54] 26 (0, 0)) (by (with_reducible repeat (first | refine blk_drewN ?_ _ | refine blk_drew ?_ | refine blk_alloc ?_ _)); exact BK262.out) k_ hk⟩) _ (Nat.le_refl _)) (Below.refl _ _) (Nat.le_refl _) (by simp) ?_; (case hd => rfl); (case hg => rfl); (case hr => first | (go_simp; done) | (go_simp; rfl)); (case hp => exact (Reps.none _ _))
                intro v264 w57 ho58 hb hg_ hnew_
                clear hg_ hnew_
                (first | rw [← Ny263.out] at ho58 | (simp only [Int.reduceToNat] at ho58; rw [← Ny263.out] at ho58))
                have n0_ := Aside0.mk (Kd.N_elder' (by (with_reducible repeat (first | apply Kd.N_alloc | apply Kd.N_drewN | apply Kd.N_drew)); exact HO_9.out) (Kd.N_base ho58) hb)
                have n1_ := Aside0.mk (Kd.R_below (by (with_reducible repeat (first | apply Kd.R_alloc | apply Kd.R_drewN | apply Kd.R_drew)); exact HO247.out) hb)
                have n2_ := Aside0.mk (Kd.R_below (by (with_reducible repeat (first | apply Kd.R_alloc | apply Kd.R_drewN | apply Kd.R_drew)); exact HO254.out) hb)
                have n3_ := Aside0.mk (Kd.R_below (by (with_reducible repeat (first | apply Kd.R_alloc | apply Kd.R_drewN | apply Kd.R_drew)); exact HO260.out) hb)
                have n4_ := Aside0.mk (Kd.N_lower ho58 (below_size (by repeat (first | (with_reducible first | exact HB.out | apply below_alloc | apply pw_below_drewN | apply below_drew1 | refine below_set ?_ GE249.out | refine below_set ?_ GE256.out | refine below_set ?_ GE262.out) | exact HB.out))))
                have n5_ := Aside0.mk (blk_below (g := gb249) (o := .cells #[.int .i64 t244, .slice Ao37 t245.length co37] 26 (0, 0)) (by (with_reducible repeat (first | refine blk_drewN ?_ _ | refine blk_drew ?_ | refine blk_alloc ?_ _)); exact BK249.out) hb)
                have n6_ := Aside0.mk (blk_below (g := gb256) (o := .cells #[.int .i64 t251, .slice Ao45 t252.length co45] 26 (0, 0)) (by (with_reducible repeat (first | refine blk_drewN ?_ _ | refine blk_drew ?_ | refine blk_alloc ?_ _)); exact BK256.out) hb)
                have n7_ := Aside0.mk (blk_below (g := gb262) (o := .cells #[.int .i64 t257, .slice Ao54 t258.length co54] 26 (0, 0)) (by (with_reducible repeat (first | refine blk_drewN ?_ _ | refine blk_drew ?_ | refine blk_alloc ?_ _)); exact BK262.out) hb)
                have n8_ := Aside0.mk (below_step (by repeat (first | (with_reducible first | exact HB.out | apply below_alloc | apply pw_below_drewN | apply below_drew1 | refine below_set ?_ GE249.out | refine below_set ?_ GE256.out | refine below_set ?_ GE262.out) | exact HB.out)) hb)
                clear HO_9
                clear HO247
                clear HO254
                clear HO260
                clear BK249
                clear BK256
                clear BK262
                clear HB
                have HO_9 := n0_
                have HO247 := n1_
                have HO254 := n2_
                have HO260 := n3_
                have HO265 := n4_
                have BK249 := n5_
                have BK256 := n6_
                have BK262 := n7_
                have HB := n8_
                clear n0_ n1_ n2_ n3_ n4_ n5_ n6_ n7_ n8_
                clear hb ho58
                refine hK.out _ _ ⟨(blk_cell BK256.out 0).trans rfl, (blk_cell BK256.out 1).trans rfl⟩ (fun hHeld => ?_)
                clear hK K
                refine norm_ (a' := ?_) ?_ ?_
                rotate_left
                ·show Act.put _ (some 69) _ = _
                 simp only [Act.put, List.setIfInBounds_toArray, List.set_cons_zero, List.set_cons_succ, i64_w, i32_w]
                 rfl
                refine two_ (i := 2) (j := 8) (Ni := some 71) (Nj := some 77) #[true, true, true, true, true, true, true, true, false, false, true, true, true, false, false, false, false, false, false] #[true, true, false, true, true, true, true, true, true, false, true, true, true, false, false, false, false, false, false] rfl rfl rfl rfl (two_of HT_.out (by kernel_rfl)) (by decide) (by decide) (fun K hK => ?_) (fun K hK => ?_)
                ·skip
                 refine Kd.N_append_rows_step k32 (w0 := w) w.heap.size (by rfl) (.tmp 69) (.tmp 70) 30 32 (.agg #[(.int .i64 0), (.int .i64 0), (.int .i64 0), (.slice none 0 0)]) 48 rfl Try.underlying30 info32 rfl (by decide) (by omega) v264 y263 t238 _ _ _ (fun k_ => some k_ ≠ (.slice Ao37 t245.length co37 : Value).ownBlock ∧ some k_ ≠ (.slice Ao45 t252.length co45 : Value).ownBlock ∧ some k_ ≠ (.slice Ao54 t258.length co54 : Value).ownBlock ∧ k_ ≠ gb249 ∧ k_ ≠ gb256 ∧ k_ ≠ gb262) (fun k_ => ((fun k_ => some k_ ≠ (.slice Ao37 t245.length co37 : Value).ownBlock ∧ some k_ ≠ (.slice Ao45 t252.length co45 : Value).ownBlock ∧ some k_ ≠ (.slice Ao54 t258.length co54 : Value).ownBlock ∧ k_ ≠ gb249 ∧ k_ ≠ gb256 ∧ k_ ≠ gb262)) k_ ∧ some k_ ≠ (v264 : Value).ownBlock) rfl rfl ?aO ?aR (fun _ hk => hk) ?aF ?aB ?aS ?aL ?_
                 (case aR => exact (by skip; exact Kd.N_F (Kd.N_mono (ok' := (fun k_ => ((fun k_ => some k_ ≠ (.slice Ao37 t245.length co37 : Value).ownBlock ∧ some k_ ≠ (.slice Ao45 t252.length co45 : Value).ownBlock ∧ some k_ ≠ (.slice Ao54 t258.length co54 : Value).ownBlock ∧ k_ ≠ gb249 ∧ k_ ≠ gb256 ∧ k_ ≠ gb262)) k_ ∧ some k_ ≠ (v264 : Value).ownBlock)) (HO_9.out) (fun k_ hk => ⟨⟨hk.1.1, ⟨hk.1.2.1, ⟨hk.1.2.2.1, ⟨hk.1.2.2.2.1, ⟨hk.1.2.2.2.2.1, hk.1.2.2.2.2.2⟩⟩⟩⟩⟩, hk.2⟩))))
                 (case aB => exact (by repeat (first | (with_reducible first | exact HB.out | apply below_alloc | apply pw_below_drewN | apply below_drew1 | refine below_set ?_ GE249.out | refine below_set ?_ GE256.out | refine below_set ?_ GE262.out) | exact HB.out)))
                 (case aF => exact (fun k_ hk => ⟨Kd.fresh' (Kd.R_lt (by (with_reducible repeat (first | apply Kd.R_alloc | apply Kd.R_drewN | apply Kd.R_drew)); exact HO247.out)) k_ hk, Kd.fresh' (Kd.R_lt (by (with_reducible repeat (first | apply Kd.R_alloc | apply Kd.R_drewN | apply Kd.R_drew)); exact HO254.out)) k_ hk, Kd.fresh' (Kd.R_lt (by (with_reducible repeat (first | apply Kd.R_alloc | apply Kd.R_drewN | apply Kd.R_drew)); exact HO260.out)) k_ hk, Kd.freshB (g := gb249) (o := .cells #[.int .i64 t244, .slice Ao37 t245.length co37] 26 (0, 0)) (by (with_reducible repeat (first | refine blk_drewN ?_ _ | refine blk_drew ?_ | refine blk_alloc ?_ _)); exact BK249.out) k_ hk, Kd.freshB (g := gb256) (o := .cells #[.int .i64 t251, .slice Ao45 t252.length co45] 26 (0, 0)) (by (with_reducible repeat (first | refine blk_drewN ?_ _ | refine blk_drew ?_ | refine blk_alloc ?_ _)); exact BK256.out) k_ hk, Kd.freshB (g := gb262) (o := .cells #[.int .i64 t257, .slice Ao54 t258.length co54] 26 (0, 0)) (by (with_reducible repeat (first | refine blk_drewN ?_ _ | refine blk_drew ?_ | refine blk_alloc ?_ _)); exact BK262.out) k_ hk⟩))
                 (case aO => exact (by (with_reducible repeat (first | apply Kd.N_alloc | apply Kd.N_drewN | apply Kd.N_drew)); exact Kd.N_mono HO265.out (fun _ hk => ⟨hk.2.1, ⟨hk.2.2.1, ⟨hk.2.2.2.1, ⟨hk.2.2.2.2.1, ⟨hk.2.2.2.2.2.1, hk.2.2.2.2.2.2⟩⟩⟩⟩⟩)))
                 (case aS => exact (below_size (by repeat (first | (with_reducible first | exact HB.out | apply below_alloc | apply pw_below_drewN | apply below_drew1 | refine below_set ?_ GE249.out | refine below_set ?_ GE256.out | refine below_set ?_ GE262.out) | exact HB.out))))
                 (case aL => have := LMc19.out; omega)
                 intro v267 w59 ho hb hg hat
                 rw [← Ny266.out] at ho
                 have n0_ := Aside0.mk (Kd.N_afterv (ok := (fun k_ => some k_ ≠ (.slice Ao37 t245.length co37 : Value).ownBlock ∧ some k_ ≠ (.slice Ao45 t252.length co45 : Value).ownBlock ∧ some k_ ≠ (.slice Ao54 t258.length co54 : Value).ownBlock ∧ k_ ≠ gb249 ∧ k_ ≠ gb256 ∧ k_ ≠ gb262)) (by (with_reducible repeat (first | apply Kd.N_alloc | apply Kd.N_drewN | apply Kd.N_drew)); exact HO_9.out) hg hat)
                 have n1_ := Aside0.mk (Kd.R_over' (by (with_reducible repeat (first | apply Kd.R_alloc | apply Kd.R_drewN | apply Kd.R_drew)); exact HO247.out) (Kd.N_typed (by (with_reducible repeat (first | apply Kd.N_alloc | apply Kd.N_drewN | apply Kd.N_drew)); exact HO265.out)) (by decide) hg)
                 have n2_ := Aside0.mk (blk_grown (g := gb249) (o := .cells #[.int .i64 t244, .slice Ao37 t245.length co37] 26 (0, 0)) (by (with_reducible repeat (first | refine blk_drewN ?_ _ | refine blk_drew ?_ | refine blk_alloc ?_ _)); exact BK249.out) hg (Kd.N_ne HO265.out BK249.out (by decide)))
                 have n3_ := Aside0.mk (Kd.R_over' (by (with_reducible repeat (first | apply Kd.R_alloc | apply Kd.R_drewN | apply Kd.R_drew)); exact HO254.out) (Kd.N_typed (by (with_reducible repeat (first | apply Kd.N_alloc | apply Kd.N_drewN | apply Kd.N_drew)); exact HO265.out)) (by decide) hg)
                 have n4_ := Aside0.mk (blk_grown (g := gb256) (o := .cells #[.int .i64 t251, .slice Ao45 t252.length co45] 26 (0, 0)) (by (with_reducible repeat (first | refine blk_drewN ?_ _ | refine blk_drew ?_ | refine blk_alloc ?_ _)); exact BK256.out) hg (Kd.N_ne HO265.out BK256.out (by decide)))
                 have n5_ := Aside0.mk (Kd.R_over' (by (with_reducible repeat (first | apply Kd.R_alloc | apply Kd.R_drewN | apply Kd.R_drew)); exact HO260.out) (Kd.N_typed (by (with_reducible repeat (first | apply Kd.N_alloc | apply Kd.N_drewN | apply Kd.N_drew)); exact HO265.out)) (by decide) hg)
                 have n6_ := Aside0.mk (blk_grown (g := gb262) (o := .cells #[.int .i64 t257, .slice Ao54 t258.length co54] 26 (0, 0)) (by (with_reducible repeat (first | refine blk_drewN ?_ _ | refine blk_drew ?_ | refine blk_alloc ?_ _)); exact BK262.out) hg (Kd.N_ne HO265.out BK262.out (by decide)))
                 have n7_ := Aside0.mk (hb)
                 have n8_ := Aside0.mk (ho)
                 clear HO_9
                 clear HO247
                 clear BK249
                 clear HO254
                 clear BK256
                 clear HO260
                 clear BK262
                 clear HB
                 clear HO265
                 have HO_9 := n0_
                 have HO247 := n1_
                 have BK249 := n2_
                 have HO254 := n3_
                 have BK256 := n4_
                 have HO260 := n5_
                 have BK262 := n6_
                 have HB := n7_
                 have HO268 := n8_
                 clear n0_ n1_ n2_ n3_ n4_ n5_ n6_ n7_ n8_
                 clear ho hb hg hat
                 refine hK.out _ _ ⟨(blk_cell BK256.out 0).trans rfl, (blk_cell BK256.out 1).trans rfl⟩ (fun hHeld => ?_)
                 clear hK K
                 refine norm_ (a' := ?_) ?_ ?_
                 rotate_left
                 ·show Act.put _ (some 71) _ = _
                  simp only [Act.put, List.setIfInBounds_toArray, List.set_cons_zero, List.set_cons_succ, i64_w, i32_w]
                  rfl
                 refine one_ (i := 8) (N := some 77) #[true, true, true, true, true, true, true, true, true, false, true, true, true, false, false, false, false, false, false] rfl rfl (one_of HT_.out (by kernel_rfl)) (by decide) (fun K hK => ?_)
                 refine Kd.N_lit_step k32 _ 32 ?hg (N' := 77) ?hd (xs := ([(⟨wrap64 ((t238.length : Int) + 1), (t238.length : Int), (⟨t251, t252⟩ : S26)⟩ : S32)] : List (S32))) (inner := [.int .i64 (wrap64 ((t238.length : Int) + 1)), .int .i64 (t238.length : Int), .int .i64 t251, .slice Ao45 t252.length co45]) (ok := (fun k_ => some k_ ≠ (.slice Ao32 t238.length co32 : Value).ownBlock ∧ some k_ ≠ (.slice Ao37 t245.length co37 : Value).ownBlock ∧ some k_ ≠ (.slice Ao54 t258.length co54 : Value).ownBlock ∧ some k_ ≠ (v267 : Value).ownBlock ∧ k_ ≠ gb249 ∧ k_ ≠ gb256 ∧ k_ ≠ gb262)) (okp := (fun k_ => some k_ ≠ (.slice Ao32 t238.length co32 : Value).ownBlock ∧ some k_ ≠ (.slice Ao37 t245.length co37 : Value).ownBlock ∧ some k_ ≠ (.slice Ao54 t258.length co54 : Value).ownBlock ∧ some k_ ≠ (v267 : Value).ownBlock ∧ k_ ≠ gb249 ∧ k_ ≠ gb256 ∧ k_ ≠ gb262)) ?hr ?hp (fun _ hk => hk) ((show ∀ k_, w59.heap.size ≤ k_ → (fun k_ => some k_ ≠ (.slice Ao32 t238.length co32 : Value).ownBlock ∧ some k_ ≠ (.slice Ao37 t245.length co37 : Value).ownBlock ∧ some k_ ≠ (.slice Ao54 t258.length co54 : Value).ownBlock ∧ some k_ ≠ (v267 : Value).ownBlock ∧ k_ ≠ gb249 ∧ k_ ≠ gb256 ∧ k_ ≠ gb262) k_ from fun k_ hk => ⟨Kd.fresh' (Kd.N_lt (by (with_reducible repeat (first | apply Kd.N_alloc | apply Kd.N_drewN | apply Kd.N_drew)); exact HO_9.out)) k_ hk, Kd.fresh' (Kd.R_lt (by (with_reducible repeat (first | apply Kd.R_alloc | apply Kd.R_drewN | apply Kd.R_drew)); exact HO247.out)) k_ hk, Kd.fresh' (Kd.R_lt (by (with_reducible repeat (first | apply Kd.R_alloc | apply Kd.R_drewN | apply Kd.R_drew)); exact HO260.out)) k_ hk, Kd.fresh' (Kd.N_lt (by (with_reducible repeat (first | apply Kd.N_alloc | apply Kd.N_drewN | apply Kd.N_drew)); exact HO268.out)) k_ hk, Kd.freshB (g := gb249) (o := .cells #[.int .i64 t244, .slice Ao37 t245.length co37] 26 (0, 0)) (by (with_reducible repeat (first | refine blk_drewN ?_ _ | refine blk_drew ?_ | refine blk_alloc ?_ _)); exact BK249.out) k_ hk, Kd.freshB (g := gb256) (o := .cells #[.int .i64 t251, .slice Ao45 t252.length co45] 26 (0, 0)) (by (with_reducible repeat (first | refine blk_drewN ?_ _ | refine blk_drew ?_ | refine blk_alloc ?_ _)); exact BK256.out) k_ hk, Kd.freshB (g := gb262) (o := .cells #[.int .i64 t257, .slice Ao54 t258.length co54] 26 (0, 0)) (by (with_reducible repeat (first | refine blk_drewN ?_ _ | refine blk_drew ?_ | refine blk_alloc ?_ _)); exact BK262.out) k_ hk⟩) _ (Nat.le_refl _)) (Below.refl _ _) (Nat.le_refl _) (by simp) ?_; (case hd => rfl); (case hg => rfl); (case hr => first | (go_simp; done) | (go_simp; rfl)); (case hp => exact (Reps.c4 (show Kd.FK k32 _ _ (⟨wrap64 ((t238.length : Int) + 1), (t238.length : Int), (⟨t251, t252⟩ : S26)⟩ : S32) [.int .i64 (wrap64 ((t238.length : Int) + 1)), .int .i64 (t238.length : Int), .int .i64 t251, .slice Ao45 t252.length co45] from (k32_mkF _ _ (⟨wrap64 ((t238.length : Int) + 1), (t238.length : Int), (⟨t251, t252⟩ : S26)⟩ : S32) (Kd.R_reads' (Kd.R_mono (ok' := (fun k_ => some k_ ≠ (.slice Ao32 t238.length co32 : Value).ownBlock ∧ some k_ ≠ (.slice Ao37 t245.length co37 : Value).ownBlock ∧ some k_ ≠ (.slice Ao54 t258.length co54 : Value).ownBlock ∧ some k_ ≠ (v267 : Value).ownBlock ∧ k_ ≠ gb249 ∧ k_ ≠ gb256 ∧ k_ ≠ gb262)) (Kd.R_types (Kd.R_types (Kd.R_types (Kd.R_apart' (Kd.R_apart' (HO254.out) (Kd.N_typed HO_9.out) (by decide)) (Kd.N_typed HO268.out) (by decide)) BK249.out (by decide)) BK256.out (by decide)) BK262.out (by decide)) (fun k_ hk => ⟨hk.1.1.1.1.2, ⟨hk.1.1.1.1.1.1, ⟨hk.1.1.1.1.1.2, ⟨hk.1.1.1.2, ⟨hk.1.1.2, ⟨hk.1.2, hk.2⟩⟩⟩⟩⟩⟩))).2.1 (Kd.R_F (Kd.R_mono (ok' := (fun k_ => some k_ ≠ (.slice Ao32 t238.length co32 : Value).ownBlock ∧ some k_ ≠ (.slice Ao37 t245.length co37 : Value).ownBlock ∧ some k_ ≠ (.slice Ao54 t258.length co54 : Value).ownBlock ∧ some k_ ≠ (v267 : Value).ownBlock ∧ k_ ≠ gb249 ∧ k_ ≠ gb256 ∧ k_ ≠ gb262)) (Kd.R_types (Kd.R_types (Kd.R_types (Kd.R_apart' (Kd.R_apart' (HO254.out) (Kd.N_typed HO_9.out) (by decide)) (Kd.N_typed HO268.out) (by decide)) BK249.out (by decide)) BK256.out (by decide)) BK262.out (by decide)) (fun k_ hk => ⟨hk.1.1.1.1.2, ⟨hk.1.1.1.1.1.1, ⟨hk.1.1.1.1.1.2, ⟨hk.1.1.1.2, ⟨hk.1.1.2, ⟨hk.1.2, hk.2⟩⟩⟩⟩⟩⟩))))) (Reps.none _ _)))
                 intro v270 w60 ho61 hb hg_ hnew_
                 clear hg_ hnew_
                 (first | rw [← Ny269.out] at ho61 | (simp only [Int.reduceToNat] at ho61; rw [← Ny269.out] at ho61))
                 have n0_ := Aside0.mk (Kd.N_elder' (by (with_reducible repeat (first | apply Kd.N_alloc | apply Kd.N_drewN | apply Kd.N_drew)); exact HO_9.out) (Kd.N_base ho61) hb)
                 have n1_ := Aside0.mk (Kd.R_below (by (with_reducible repeat (first | apply Kd.R_alloc | apply Kd.R_drewN | apply Kd.R_drew)); exact HO247.out) hb)
                 have n2_ := Aside0.mk (Kd.R_below (by (with_reducible repeat (first | apply Kd.R_alloc | apply Kd.R_drewN | apply Kd.R_drew)); exact HO260.out) hb)
                 have n3_ := Aside0.mk (Kd.N_elder' (by (with_reducible repeat (first | apply Kd.N_alloc | apply Kd.N_drewN | apply Kd.N_drew)); exact HO268.out) (Kd.N_base ho61) hb)
                 have n4_ := Aside0.mk (Kd.N_lower ho61 (below_size (by repeat (first | (with_reducible first | exact HB.out | apply below_alloc | apply pw_below_drewN | apply below_drew1 | refine below_set ?_ GE249.out | refine below_set ?_ GE256.out | refine below_set ?_ GE262.out) | exact HB.out))))
                 have n5_ := Aside0.mk (blk_below (g := gb249) (o := .cells #[.int .i64 t244, .slice Ao37 t245.length co37] 26 (0, 0)) (by (with_reducible repeat (first | refine blk_drewN ?_ _ | refine blk_drew ?_ | refine blk_alloc ?_ _)); exact BK249.out) hb)
                 have n6_ := Aside0.mk (blk_below (g := gb256) (o := .cells #[.int .i64 t251, .slice Ao45 t252.length co45] 26 (0, 0)) (by (with_reducible repeat (first | refine blk_drewN ?_ _ | refine blk_drew ?_ | refine blk_alloc ?_ _)); exact BK256.out) hb)
                 have n7_ := Aside0.mk (blk_below (g := gb262) (o := .cells #[.int .i64 t257, .slice Ao54 t258.length co54] 26 (0, 0)) (by (with_reducible repeat (first | refine blk_drewN ?_ _ | refine blk_drew ?_ | refine blk_alloc ?_ _)); exact BK262.out) hb)
                 have n8_ := Aside0.mk (below_step (by repeat (first | (with_reducible first | exact HB.out | apply below_alloc | apply pw_below_drewN | apply below_drew1 | refine below_set ?_ GE249.out | refine below_set ?_ GE256.out | refine below_set ?_ GE262.out) | exact HB.out)) hb)
                 clear HO_9
                 clear HO247
                 clear HO260
                 clear HO268
                 clear BK249
                 clear BK256
                 clear BK262
                 clear HB
                 clear HO254
                 have HO_9 := n0_
                 have HO247 := n1_
                 have HO260 := n2_
                 have HO268 := n3_
                 have HO271 := n4_
                 have BK249 := n5_
                 have BK256 := n6_
                 have BK262 := n7_
                 have HB := n8_
                 clear n0_ n1_ n2_ n3_ n4_ n5_ n6_ n7_ n8_
                 clear hb ho61
                 refine hK.out _ _ ⟨(blk_cell BK256.out 0).trans rfl, (blk_cell BK256.out 1).trans rfl⟩ (fun hHeld => ?_)
                 clear hK K
                 refine norm_ (a' := ?_) ?_ ?_
                 rotate_left
                 ·show Act.put _ (some 77) _ = _
                  simp only [Act.put, List.setIfInBounds_toArray, List.set_cons_zero, List.set_cons_succ, i64_w, i32_w]
                  rfl
                 exact norm_ (by simp only [putAll, Act.put, List.setIfInBounds_toArray, List.set_cons_zero, List.set_cons_succ]) (hCont (v264, v267, v270) _ ⟨hHeld, (by (with_reducible repeat (first | apply Kd.R_alloc | apply Kd.R_drewN | apply Kd.R_drew)); exact Kd.R_mono HO247.out (fun _ hk => hk.2)), (by (with_reducible repeat (first | apply Kd.R_alloc | apply Kd.R_drewN | apply Kd.R_drew)); exact Kd.R_mono HO260.out (fun _ hk => hk.1)), (by (with_reducible repeat (first | apply Kd.N_alloc | apply Kd.N_drewN | apply Kd.N_drew)); exact Kd.N_mono HO268.out (fun _ hk => ⟨hk.1.1, ⟨hk.1.2.2.1, ⟨hk.2, ⟨hk.1.2.2.2.1, ⟨hk.1.2.2.2.2.1, hk.1.2.2.2.2.2⟩⟩⟩⟩⟩)), (by (with_reducible repeat (first | apply Kd.N_alloc | apply Kd.N_drewN | apply Kd.N_drew)); exact Kd.N_mono HO271.out (fun _ hk => ⟨hk.2.1, ⟨hk.2.2.1, ⟨hk.2.2.2.1, ⟨hk.1, ⟨hk.2.2.2.2.1, ⟨hk.2.2.2.2.2.1, hk.2.2.2.2.2.2⟩⟩⟩⟩⟩⟩)), (by (with_reducible repeat (first | apply Kd.N_alloc | apply Kd.N_drewN | apply Kd.N_drew)); exact Kd.N_mono HO_9.out (fun _ hk => ⟨hk.1.1.1, ⟨hk.1.1.2.2.1, ⟨hk.1.2, ⟨hk.2, ⟨hk.1.1.2.2.2.1, ⟨hk.1.1.2.2.2.2.1, hk.1.1.2.2.2.2.2⟩⟩⟩⟩⟩⟩)), (by (with_reducible repeat (first | refine blk_drewN ?_ _ | refine blk_drew ?_ | refine blk_alloc ?_ _)); exact BK249.out), (by (with_reducible repeat (first | refine blk_drewN ?_ _ | refine blk_drew ?_ | refine blk_alloc ?_ _)); exact BK256.out), (by (with_reducible repeat (first | refine blk_drewN ?_ _ | refine blk_drew ?_ | refine blk_alloc ?_ _)); exact BK262.out), (by repeat (first | (with_reducible first | exact HB.out | apply below_alloc | apply pw_below_drewN | apply below_drew1 | refine below_set ?_ GE249.out | refine below_set ?_ GE256.out | refine below_set ?_ GE262.out) | exact HB.out))⟩)
                ·skip
                 refine Kd.N_lit_step k32 _ 32 ?hg (N' := 77) ?hd (xs := ([(⟨wrap64 ((t238.length : Int) + 1), (t238.length : Int), (⟨t251, t252⟩ : S26)⟩ : S32)] : List (S32))) (inner := [.int .i64 (wrap64 ((t238.length : Int) + 1)), .int .i64 (t238.length : Int), .int .i64 t251, .slice Ao45 t252.length co45]) (ok := (fun k_ => some k_ ≠ (.slice Ao32 t238.length co32 : Value).ownBlock ∧ some k_ ≠ (.slice Ao37 t245.length co37 : Value).ownBlock ∧ some k_ ≠ (.slice Ao54 t258.length co54 : Value).ownBlock ∧ some k_ ≠ (v264 : Value).ownBlock ∧ k_ ≠ gb249 ∧ k_ ≠ gb256 ∧ k_ ≠ gb262)) (okp := (fun k_ => some k_ ≠ (.slice Ao32 t238.length co32 : Value).ownBlock ∧ some k_ ≠ (.slice Ao37 t245.length co37 : Value).ownBlock ∧ some k_ ≠ (.slice Ao54 t258.length co54 : Value).ownBlock ∧ some k_ ≠ (v264 : Value).ownBlock ∧ k_ ≠ gb249 ∧ k_ ≠ gb256 ∧ k_ ≠ gb262)) ?hr ?hp (fun _ hk => hk) ((show ∀ k_, w57.heap.size ≤ k_ → (fun k_ => some k_ ≠ (.slice Ao32 t238.length co32 : Value).ownBlock ∧ some k_ ≠ (.slice Ao37 t245.length co37 : Value).ownBlock ∧ some k_ ≠ (.slice Ao54 t258.length co54 : Value).ownBlock ∧ some k_ ≠ (v264 : Value).ownBlock ∧ k_ ≠ gb249 ∧ k_ ≠ gb256 ∧ k_ ≠ gb262) k_ from fun k_ hk => ⟨Kd.fresh' (Kd.N_lt (by (with_reducible repeat (first | apply Kd.N_alloc | apply Kd.N_drewN | apply Kd.N_drew)); exact HO_9.out)) k_ hk, Kd.fresh' (Kd.R_lt (by (with_reducible repeat (first | apply Kd.R_alloc | apply Kd.R_drewN | apply Kd.R_drew)); exact HO247.out)) k_ hk, Kd.fresh' (Kd.R_lt (by (with_reducible repeat (first | apply Kd.R_alloc | apply Kd.R_drewN | apply Kd.R_drew)); exact HO260.out)) k_ hk, Kd.fresh' (Kd.N_lt (by (with_reducible repeat (first | apply Kd.N_alloc | apply Kd.N_drewN | apply Kd.N_drew)); exact HO265.out)) k_ hk, Kd.freshB (g := gb249) (o := .cells #[.int .i64 t244, .slice Ao37 t245.length co37] 26 (0, 0)) (by (with_reducible repeat (first | refine blk_drewN ?_ _ | refine blk_drew ?_ | refine blk_alloc ?_ _)); exact BK249.out) k_ hk, Kd.freshB (g := gb256) (o := .cells #[.int .i64 t251, .slice Ao45 t252.length co45] 26 (0, 0)) (by (with_reducible repeat (first | refine blk_drewN ?_ _ | refine blk_drew ?_ | refine blk_alloc ?_ _)); exact BK256.out) k_ hk, Kd.freshB (g := gb262) (o := .cells #[.int .i64 t257, .slice Ao54 t258.length co54] 26 (0, 0)) (by (with_reducible repeat (first | refine blk_drewN ?_ _ | refine blk_drew ?_ | refine blk_alloc ?_ _)); exact BK262.out) k_ hk⟩) _ (Nat.le_refl _)) (Below.refl _ _) (Nat.le_refl _) (by simp) ?_; (case hd => rfl); (case hg => rfl); (case hr => first | (go_simp; done) | (go_simp; rfl)); (case hp => exact (Reps.c4 (show Kd.FK k32 _ _ (⟨wrap64 ((t238.length : Int) + 1), (t238.length : Int), (⟨t251, t252⟩ : S26)⟩ : S32) [.int .i64 (wrap64 ((t238.length : Int) + 1)), .int .i64 (t238.length : Int), .int .i64 t251, .slice Ao45 t252.length co45] from (k32_mkF _ _ (⟨wrap64 ((t238.length : Int) + 1), (t238.length : Int), (⟨t251, t252⟩ : S26)⟩ : S32) (Kd.R_reads' (Kd.R_mono (ok' := (fun k_ => some k_ ≠ (.slice Ao32 t238.length co32 : Value).ownBlock ∧ some k_ ≠ (.slice Ao37 t245.length co37 : Value).ownBlock ∧ some k_ ≠ (.slice Ao54 t258.length co54 : Value).ownBlock ∧ some k_ ≠ (v264 : Value).ownBlock ∧ k_ ≠ gb249 ∧ k_ ≠ gb256 ∧ k_ ≠ gb262)) (Kd.R_types (Kd.R_types (Kd.R_types (Kd.R_apart' (Kd.R_apart' (HO254.out) (Kd.N_typed HO_9.out) (by decide)) (Kd.N_typed HO265.out) (by decide)) BK249.out (by decide)) BK256.out (by decide)) BK262.out (by decide)) (fun k_ hk => ⟨hk.1.1.1.1.2, ⟨hk.1.1.1.1.1.1, ⟨hk.1.1.1.1.1.2, ⟨hk.1.1.1.2, ⟨hk.1.1.2, ⟨hk.1.2, hk.2⟩⟩⟩⟩⟩⟩))).2.1 (Kd.R_F (Kd.R_mono (ok' := (fun k_ => some k_ ≠ (.slice Ao32 t238.length co32 : Value).ownBlock ∧ some k_ ≠ (.slice Ao37 t245.length co37 : Value).ownBlock ∧ some k_ ≠ (.slice Ao54 t258.length co54 : Value).ownBlock ∧ some k_ ≠ (v264 : Value).ownBlock ∧ k_ ≠ gb249 ∧ k_ ≠ gb256 ∧ k_ ≠ gb262)) (Kd.R_types (Kd.R_types (Kd.R_types (Kd.R_apart' (Kd.R_apart' (HO254.out) (Kd.N_typed HO_9.out) (by decide)) (Kd.N_typed HO265.out) (by decide)) BK249.out (by decide)) BK256.out (by decide)) BK262.out (by decide)) (fun k_ hk => ⟨hk.1.1.1.1.2, ⟨hk.1.1.1.1.1.1, ⟨hk.1.1.1.1.1.2, ⟨hk.1.1.1.2, ⟨hk.1.1.2, ⟨hk.1.2, hk.2⟩⟩⟩⟩⟩⟩))))) (Reps.none _ _)))
                 intro v270 w59 ho60 hb hg_ hnew_
                 clear hg_ hnew_
                 (first | rw [← Ny269.out] at ho60 | (simp only [Int.reduceToNat] at ho60; rw [← Ny269.out] at ho60))
                 have n0_ := Aside0.mk (Kd.N_elder' (by (with_reducible repeat (first | apply Kd.N_alloc | apply Kd.N_drewN | apply Kd.N_drew)); exact HO_9.out) (Kd.N_base ho60) hb)
                 have n1_ := Aside0.mk (Kd.R_below (by (with_reducible repeat (first | apply Kd.R_alloc | apply Kd.R_drewN | apply Kd.R_drew)); exact HO247.out) hb)
                 have n2_ := Aside0.mk (Kd.R_below (by (with_reducible repeat (first | apply Kd.R_alloc | apply Kd.R_drewN | apply Kd.R_drew)); exact HO260.out) hb)
                 have n3_ := Aside0.mk (Kd.N_elder' (by (with_reducible repeat (first | apply Kd.N_alloc | apply Kd.N_drewN | apply Kd.N_drew)); exact HO265.out) (Kd.N_base ho60) hb)
                 have n4_ := Aside0.mk (Kd.N_lower ho60 (below_size (by repeat (first | (with_reducible first | exact HB.out | apply below_alloc | apply pw_below_drewN | apply below_drew1 | refine below_set ?_ GE249.out | refine below_set ?_ GE256.out | refine below_set ?_ GE262.out) | exact HB.out))))
                 have n5_ := Aside0.mk (blk_below (g := gb249) (o := .cells #[.int .i64 t244, .slice Ao37 t245.length co37] 26 (0, 0)) (by (with_reducible repeat (first | refine blk_drewN ?_ _ | refine blk_drew ?_ | refine blk_alloc ?_ _)); exact BK249.out) hb)
                 have n6_ := Aside0.mk (blk_below (g := gb256) (o := .cells #[.int .i64 t251, .slice Ao45 t252.length co45] 26 (0, 0)) (by (with_reducible repeat (first | refine blk_drewN ?_ _ | refine blk_drew ?_ | refine blk_alloc ?_ _)); exact BK256.out) hb)
                 have n7_ := Aside0.mk (blk_below (g := gb262) (o := .cells #[.int .i64 t257, .slice Ao54 t258.length co54] 26 (0, 0)) (by (with_reducible repeat (first | refine blk_drewN ?_ _ | refine blk_drew ?_ | refine blk_alloc ?_ _)); exact BK262.out) hb)
                 have n8_ := Aside0.mk (below_step (by repeat (first | (with_reducible first | exact HB.out | apply below_alloc | apply pw_below_drewN | apply below_drew1 | refine below_set ?_ GE249.out | refine below_set ?_ GE256.out | refine below_set ?_ GE262.out) | exact HB.out)) hb)
                 clear HO_9
                 clear HO247
                 clear HO260
                 clear HO265
                 clear BK249
                 clear BK256
                 clear BK262
                 clear HB
                 clear HO254
                 have HO_9 := n0_
                 have HO247 := n1_
                 have HO260 := n2_
                 have HO265 := n3_
                 have HO271 := n4_
                 have BK249 := n5_
                 have BK256 := n6_
                 have BK262 := n7_
                 have HB := n8_
                 clear n0_ n1_ n2_ n3_ n4_ n5_ n6_ n7_ n8_
                 clear hb ho60
                 refine hK.out _ _ ⟨(blk_cell BK256.out 0).trans rfl, (blk_cell BK256.out 1).trans rfl⟩ (fun hHeld => ?_)
                 clear hK K
                 refine norm_ (a' := ?_) ?_ ?_
                 rotate_left
                 ·show Act.put _ (some 77) _ = _
                  simp only [Act.put, List.setIfInBounds_toArray, List.set_cons_zero, List.set_cons_succ, i64_w, i32_w]
                  rfl
                 refine one_ (i := 2) (N := some 71) #[true, true, true, true, true, true, true, true, true, false, true, true, true, false, false, false, false, false, false] rfl rfl (one_of HT_.out (by kernel_rfl)) (by decide) (fun K hK => ?_)
                 refine Kd.N_append_rows_step k32 (w0 := w) w.heap.size (by rfl) (.tmp 69) (.tmp 70) 30 32 (.agg #[(.int .i64 0), (.int .i64 0), (.int .i64 0), (.slice none 0 0)]) 48 rfl Try.underlying30 info32 rfl (by decide) (by omega) v264 y263 t238 _ _ _ (fun k_ => some k_ ≠ (.slice Ao37 t245.length co37 : Value).ownBlock ∧ some k_ ≠ (.slice Ao54 t258.length co54 : Value).ownBlock ∧ some k_ ≠ (v270 : Value).ownBlock ∧ k_ ≠ gb249 ∧ k_ ≠ gb256 ∧ k_ ≠ gb262) (fun k_ => ((fun k_ => some k_ ≠ (.slice Ao37 t245.length co37 : Value).ownBlock ∧ some k_ ≠ (.slice Ao54 t258.length co54 : Value).ownBlock ∧ some k_ ≠ (v270 : Value).ownBlock ∧ k_ ≠ gb249 ∧ k_ ≠ gb256 ∧ k_ ≠ gb262)) k_ ∧ some k_ ≠ (v264 : Value).ownBlock) rfl rfl ?aO ?aR (fun _ hk => hk) ?aF ?aB ?aS ?aL ?_
                 (case aR => exact (by skip; exact Kd.N_F (Kd.N_mono (ok' := (fun k_ => ((fun k_ => some k_ ≠ (.slice Ao37 t245.length co37 : Value).ownBlock ∧ some k_ ≠ (.slice Ao54 t258.length co54 : Value).ownBlock ∧ some k_ ≠ (v270 : Value).ownBlock ∧ k_ ≠ gb249 ∧ k_ ≠ gb256 ∧ k_ ≠ gb262)) k_ ∧ some k_ ≠ (v264 : Value).ownBlock)) (HO_9.out) (fun k_ hk => ⟨⟨hk.1.1.1, ⟨hk.1.1.2.2.1, ⟨hk.2, ⟨hk.1.1.2.2.2.1, ⟨hk.1.1.2.2.2.2.1, hk.1.1.2.2.2.2.2⟩⟩⟩⟩⟩, hk.1.2⟩))))
                 (case aB => exact (by repeat (first | (with_reducible first | exact HB.out | apply below_alloc | apply pw_below_drewN | apply below_drew1 | refine below_set ?_ GE249.out | refine below_set ?_ GE256.out | refine below_set ?_ GE262.out) | exact HB.out)))
                 (case aF => exact (fun k_ hk => ⟨Kd.fresh' (Kd.R_lt (by (with_reducible repeat (first | apply Kd.R_alloc | apply Kd.R_drewN | apply Kd.R_drew)); exact HO247.out)) k_ hk, Kd.fresh' (Kd.R_lt (by (with_reducible repeat (first | apply Kd.R_alloc | apply Kd.R_drewN | apply Kd.R_drew)); exact HO260.out)) k_ hk, Kd.fresh' (Kd.N_lt (by (with_reducible repeat (first | apply Kd.N_alloc | apply Kd.N_drewN | apply Kd.N_drew)); exact HO271.out)) k_ hk, Kd.freshB (g := gb249) (o := .cells #[.int .i64 t244, .slice Ao37 t245.length co37] 26 (0, 0)) (by (with_reducible repeat (first | refine blk_drewN ?_ _ | refine blk_drew ?_ | refine blk_alloc ?_ _)); exact BK249.out) k_ hk, Kd.freshB (g := gb256) (o := .cells #[.int .i64 t251, .slice Ao45 t252.length co45] 26 (0, 0)) (by (with_reducible repeat (first | refine blk_drewN ?_ _ | refine blk_drew ?_ | refine blk_alloc ?_ _)); exact BK256.out) k_ hk, Kd.freshB (g := gb262) (o := .cells #[.int .i64 t257, .slice Ao54 t258.length co54] 26 (0, 0)) (by (with_reducible repeat (first | refine blk_drewN ?_ _ | refine blk_drew ?_ | refine blk_alloc ?_ _)); exact BK262.out) k_ hk⟩))
                 (case aO => exact (by (with_reducible repeat (first | apply Kd.N_alloc | apply Kd.N_drewN | apply Kd.N_drew)); exact Kd.N_mono HO265.out (fun _ hk => ⟨hk.1.2.1, ⟨hk.1.2.2.2.1, ⟨hk.2, ⟨hk.1.2.2.2.2.1, ⟨hk.1.2.2.2.2.2.1, hk.1.2.2.2.2.2.2⟩⟩⟩⟩⟩)))
                 (case aS => exact (below_size (by repeat (first | (with_reducible first | exact HB.out | apply below_alloc | apply pw_below_drewN | apply below_drew1 | refine below_set ?_ GE249.out | refine below_set ?_ GE256.out | refine below_set ?_ GE262.out) | exact HB.out))))
                 (case aL => have := LMc19.out; omega)
                 intro v267 w61 ho hb hg hat
                 rw [← Ny266.out] at ho
                 have n0_ := Aside0.mk (Kd.N_afterv (ok := (fun k_ => some k_ ≠ (.slice Ao37 t245.length co37 : Value).ownBlock ∧ some k_ ≠ (.slice Ao54 t258.length co54 : Value).ownBlock ∧ some k_ ≠ (v270 : Value).ownBlock ∧ k_ ≠ gb249 ∧ k_ ≠ gb256 ∧ k_ ≠ gb262)) (by (with_reducible repeat (first | apply Kd.N_alloc | apply Kd.N_drewN | apply Kd.N_drew)); exact Kd.N_mono HO_9.out (fun _ hk => ⟨⟨hk.1.1.1, ⟨hk.1.1.2.2.1, ⟨hk.2, ⟨hk.1.1.2.2.2.1, ⟨hk.1.1.2.2.2.2.1, hk.1.1.2.2.2.2.2⟩⟩⟩⟩⟩, hk.1.2⟩)) hg hat)
                 have n1_ := Aside0.mk (Kd.R_over' (by (with_reducible repeat (first | apply Kd.R_alloc | apply Kd.R_drewN | apply Kd.R_drew)); exact HO247.out) (Kd.N_typed (by (with_reducible repeat (first | apply Kd.N_alloc | apply Kd.N_drewN | apply Kd.N_drew)); exact HO265.out)) (by decide) hg)
                 have n2_ := Aside0.mk (blk_grown (g := gb249) (o := .cells #[.int .i64 t244, .slice Ao37 t245.length co37] 26 (0, 0)) (by (with_reducible repeat (first | refine blk_drewN ?_ _ | refine blk_drew ?_ | refine blk_alloc ?_ _)); exact BK249.out) hg (Kd.N_ne HO265.out BK249.out (by decide)))
                 have n3_ := Aside0.mk (blk_grown (g := gb256) (o := .cells #[.int .i64 t251, .slice Ao45 t252.length co45] 26 (0, 0)) (by (with_reducible repeat (first | refine blk_drewN ?_ _ | refine blk_drew ?_ | refine blk_alloc ?_ _)); exact BK256.out) hg (Kd.N_ne HO265.out BK256.out (by decide)))
                 have n4_ := Aside0.mk (Kd.R_over' (by (with_reducible repeat (first | apply Kd.R_alloc | apply Kd.R_drewN | apply Kd.R_drew)); exact HO260.out) (Kd.N_typed (by (with_reducible repeat (first | apply Kd.N_alloc | apply Kd.N_drewN | apply Kd.N_drew)); exact HO265.out)) (by decide) hg)
                 have n5_ := Aside0.mk (blk_grown (g := gb262) (o := .cells #[.int .i64 t257, .slice Ao54 t258.length co54] 26 (0, 0)) (by (with_reducible repeat (first | refine blk_drewN ?_ _ | refine blk_drew ?_ | refine blk_alloc ?_ _)); exact BK262.out) hg (Kd.N_ne HO265.out BK262.out (by decide)))
                 have n6_ := Aside0.mk (Kd.N_afterv (ok := (fun k_ => some k_ ≠ (.slice Ao32 t238.length co32 : Value).ownBlock ∧ some k_ ≠ (.slice Ao37 t245.length co37 : Value).ownBlock ∧ some k_ ≠ (.slice Ao54 t258.length co54 : Value).ownBlock ∧ k_ ≠ gb249 ∧ k_ ≠ gb256 ∧ k_ ≠ gb262)) (by (with_reducible repeat (first | apply Kd.N_alloc | apply Kd.N_drewN | apply Kd.N_drew)); exact Kd.N_mono HO271.out (fun _ hk => ⟨⟨hk.1, ⟨hk.2.1, ⟨hk.2.2.1, ⟨hk.2.2.2.2.1, ⟨hk.2.2.2.2.2.1, hk.2.2.2.2.2.2⟩⟩⟩⟩⟩, hk.2.2.2.1⟩)) hg hat)
                 have n7_ := Aside0.mk (hb)
                 have n8_ := Aside0.mk (ho)
                 clear HO_9
                 clear HO247
                 clear BK249
                 clear BK256
                 clear HO260
                 clear BK262
                 clear HO271
                 clear HB
                 clear HO265
                 have HO_9 := n0_
                 have HO247 := n1_
                 have BK249 := n2_
                 have BK256 := n3_
                 have HO260 := n4_
                 have BK262 := n5_
                 have HO271 := n6_
                 have HB := n7_
                 have HO268 := n8_
                 clear n0_ n1_ n2_ n3_ n4_ n5_ n6_ n7_ n8_
                 clear ho hb hg hat
                 refine hK.out _ _ ⟨(blk_cell BK256.out 0).trans rfl, (blk_cell BK256.out 1).trans rfl⟩ (fun hHeld => ?_)
                 clear hK K
                 refine norm_ (a' := ?_) ?_ ?_
                 rotate_left
                 ·show Act.put _ (some 71) _ = _
                  simp only [Act.put, List.setIfInBounds_toArray, List.set_cons_zero, List.set_cons_succ, i64_w, i32_w]
                  rfl
                 exact norm_ (by simp only [putAll, Act.put, List.setIfInBounds_toArray, List.set_cons_zero, List.set_cons_succ]) (hCont (v264, v267, v270) _ ⟨hHeld, (by (with_reducible repeat (first | apply Kd.R_alloc | apply Kd.R_drewN | apply Kd.R_drew)); exact Kd.R_mono HO247.out (fun _ hk => hk.2)), (by (with_reducible repeat (first | apply Kd.R_alloc | apply Kd.R_drewN | apply Kd.R_drew)); exact Kd.R_mono HO260.out (fun _ hk => hk.1)), (by (with_reducible repeat (first | apply Kd.N_alloc | apply Kd.N_drewN | apply Kd.N_drew)); exact HO268.out), (by (with_reducible repeat (first | apply Kd.N_alloc | apply Kd.N_drewN | apply Kd.N_drew)); exact Kd.N_mono HO271.out (fun _ hk => ⟨hk.1.2.1, ⟨hk.1.2.2.1, ⟨hk.2, ⟨hk.1.1, ⟨hk.1.2.2.2.1, ⟨hk.1.2.2.2.2.1, hk.1.2.2.2.2.2⟩⟩⟩⟩⟩⟩)), (by (with_reducible repeat (first | apply Kd.N_alloc | apply Kd.N_drewN | apply Kd.N_drew)); exact Kd.N_mono HO_9.out (fun _ hk => ⟨hk.1.1, ⟨hk.1.2.1, ⟨hk.2, ⟨hk.1.2.2.1, ⟨hk.1.2.2.2.1, ⟨hk.1.2.2.2.2.1, hk.1.2.2.2.2.2⟩⟩⟩⟩⟩⟩)), (by (with_reducible repeat (first | refine blk_drewN ?_ _ | refine blk_drew ?_ | refine blk_alloc ?_ _)); exact BK249.out), (by (with_reducible repeat (first | refine blk_drewN ?_ _ | refine blk_drew ?_ | refine blk_alloc ?_ _)); exact BK256.out), (by (with_reducible repeat (first | refine blk_drewN ?_ _ | refine blk_drew ?_ | refine blk_alloc ?_ _)); exact BK262.out), (by repeat (first | (with_reducible first | exact HB.out | apply below_alloc | apply pw_below_drewN | apply below_drew1 | refine below_set ?_ GE249.out | refine below_set ?_ GE256.out | refine below_set ?_ GE262.out) | exact HB.out))⟩)
               ·skip
                refine Kd.N_lit_step k32 _ 32 ?hg (N' := 77) ?hd (xs := ([(⟨wrap64 ((t238.length : Int) + 1), (t238.length : Int), (⟨t251, t252⟩ : S26)⟩ : S32)] : List (S32))) (inner := [.int .i64 (wrap64 ((t238.length : Int) + 1)), .int .i64 (t238.length : Int), .int .i64 t251, .slice Ao45 t252.length co45]) (ok := (fun k_ => some k_ ≠ (.slice Ao32 t238.length co32 : Value).ownBlock ∧ some k_ ≠ (.slice Ao37 t245.length co37 : Value).ownBlock ∧ some k_ ≠ (.slice Ao54 t258.length co54 : Value).ownBlock ∧ k_ ≠ gb249 ∧ k_ ≠ gb256 ∧ k_ ≠ gb262)) (okp := (fun k_ => some k_ ≠ (.slice Ao32 t238.length co32 : Value).ownBlock ∧ some k_ ≠ (.slice Ao37 t245.length co37 : Value).ownBlock ∧ some k_ ≠ (.slice Ao54 t258.length co54 : Value).ownBlock ∧ k_ ≠ gb249 ∧ k_ ≠ gb256 ∧ k_ ≠ gb262)) ?hr ?hp (fun _ hk => hk) ((show ∀ k_, w56.heap.size ≤ k_ → (fun k_ => some k_ ≠ (.slice Ao32 t238.length co32 : Value).ownBlock ∧ some k_ ≠ (.slice Ao37 t245.length co37 : Value).ownBlock ∧ some k_ ≠ (.slice Ao54 t258.length co54 : Value).ownBlock ∧ k_ ≠ gb249 ∧ k_ ≠ gb256 ∧ k_ ≠ gb262) k_ from fun k_ hk => ⟨Kd.fresh' (Kd.N_lt (by (with_reducible repeat (first | apply Kd.N_alloc | apply Kd.N_drewN | apply Kd.N_drew)); exact HO_9.out)) k_ hk, Kd.fresh' (Kd.R_lt (by (with_reducible repeat (first | apply Kd.R_alloc | apply Kd.R_drewN | apply Kd.R_drew)); exact HO247.out)) k_ hk, Kd.fresh' (Kd.R_lt (by (with_reducible repeat (first | apply Kd.R_alloc | apply Kd.R_drewN | apply Kd.R_drew)); exact HO260.out)) k_ hk, Kd.freshB (g := gb249) (o := .cells #[.int .i64 t244, .slice Ao37 t245.length co37] 26 (0, 0)) (by (with_reducible repeat (first | refine blk_drewN ?_ _ | refine blk_drew ?_ | refine blk_alloc ?_ _)); exact BK249.out) k_ hk, Kd.freshB (g := gb256) (o := .cells #[.int .i64 t251, .slice Ao45 t252.length co45] 26 (0, 0)) (by (with_reducible repeat (first | refine blk_drewN ?_ _ | refine blk_drew ?_ | refine blk_alloc ?_ _)); exact BK256.out) k_ hk, Kd.freshB (g := gb262) (o := .cells #[.int .i64 t257, .slice Ao54 t258.length co54] 26 (0, 0)) (by (with_reducible repeat (first | refine blk_drewN ?_ _ | refine blk_drew ?_ | refine blk_alloc ?_ _)); exact BK262.out) k_ hk⟩) _ (Nat.le_refl _)) (Below.refl _ _) (Nat.le_refl _) (by simp) ?_; (case hd => rfl); (case hg => rfl); (case hr => first | (go_simp; done) | (go_simp; rfl)); (case hp => exact (Reps.c4 (show Kd.FK k32 _ _ (⟨wrap64 ((t238.length : Int) + 1), (t238.length : Int), (⟨t251, t252⟩ : S26)⟩ : S32) [.int .i64 (wrap64 ((t238.length : Int) + 1)), .int .i64 (t238.length : Int), .int .i64 t251, .slice Ao45 t252.length co45] from (k32_mkF _ _ (⟨wrap64 ((t238.length : Int) + 1), (t238.length : Int), (⟨t251, t252⟩ : S26)⟩ : S32) (Kd.R_reads' (Kd.R_mono (ok' := (fun k_ => some k_ ≠ (.slice Ao32 t238.length co32 : Value).ownBlock ∧ some k_ ≠ (.slice Ao37 t245.length co37 : Value).ownBlock ∧ some k_ ≠ (.slice Ao54 t258.length co54 : Value).ownBlock ∧ k_ ≠ gb249 ∧ k_ ≠ gb256 ∧ k_ ≠ gb262)) (Kd.R_types (Kd.R_types (Kd.R_types (Kd.R_apart' (HO254.out) (Kd.N_typed HO_9.out) (by decide)) BK249.out (by decide)) BK256.out (by decide)) BK262.out (by decide)) (fun k_ hk => ⟨hk.1.1.1.2, ⟨hk.1.1.1.1.1, ⟨hk.1.1.1.1.2, ⟨hk.1.1.2, ⟨hk.1.2, hk.2⟩⟩⟩⟩⟩))).2.1 (Kd.R_F (Kd.R_mono (ok' := (fun k_ => some k_ ≠ (.slice Ao32 t238.length co32 : Value).ownBlock ∧ some k_ ≠ (.slice Ao37 t245.length co37 : Value).ownBlock ∧ some k_ ≠ (.slice Ao54 t258.length co54 : Value).ownBlock ∧ k_ ≠ gb249 ∧ k_ ≠ gb256 ∧ k_ ≠ gb262)) (Kd.R_types (Kd.R_types (Kd.R_types (Kd.R_apart' (HO254.out) (Kd.N_typed HO_9.out) (by decide)) BK249.out (by decide)) BK256.out (by decide)) BK262.out (by decide)) (fun k_ hk => ⟨hk.1.1.1.2, ⟨hk.1.1.1.1.1, ⟨hk.1.1.1.1.2, ⟨hk.1.1.2, ⟨hk.1.2, hk.2⟩⟩⟩⟩⟩))))) (Reps.none _ _)))
                intro v270 w57 ho58 hb hg_ hnew_
                clear hg_ hnew_
                (first | rw [← Ny269.out] at ho58 | (simp only [Int.reduceToNat] at ho58; rw [← Ny269.out] at ho58))
                have n0_ := Aside0.mk (Kd.N_elder' (by (with_reducible repeat (first | apply Kd.N_alloc | apply Kd.N_drewN | apply Kd.N_drew)); exact HO_9.out) (Kd.N_base ho58) hb)
                have n1_ := Aside0.mk (Kd.R_below (by (with_reducible repeat (first | apply Kd.R_alloc | apply Kd.R_drewN | apply Kd.R_drew)); exact HO247.out) hb)
                have n2_ := Aside0.mk (Kd.R_below (by (with_reducible repeat (first | apply Kd.R_alloc | apply Kd.R_drewN | apply Kd.R_drew)); exact HO260.out) hb)
                have n3_ := Aside0.mk (Kd.N_lower ho58 (below_size (by repeat (first | (with_reducible first | exact HB.out | apply below_alloc | apply pw_below_drewN | apply below_drew1 | refine below_set ?_ GE249.out | refine below_set ?_ GE256.out | refine below_set ?_ GE262.out) | exact HB.out))))
                have n4_ := Aside0.mk (blk_below (g := gb249) (o := .cells #[.int .i64 t244, .slice Ao37 t245.length co37] 26 (0, 0)) (by (with_reducible repeat (first | refine blk_drewN ?_ _ | refine blk_drew ?_ | refine blk_alloc ?_ _)); exact BK249.out) hb)
                have n5_ := Aside0.mk (blk_below (g := gb256) (o := .cells #[.int .i64 t251, .slice Ao45 t252.length co45] 26 (0, 0)) (by (with_reducible repeat (first | refine blk_drewN ?_ _ | refine blk_drew ?_ | refine blk_alloc ?_ _)); exact BK256.out) hb)
                have n6_ := Aside0.mk (blk_below (g := gb262) (o := .cells #[.int .i64 t257, .slice Ao54 t258.length co54] 26 (0, 0)) (by (with_reducible repeat (first | refine blk_drewN ?_ _ | refine blk_drew ?_ | refine blk_alloc ?_ _)); exact BK262.out) hb)
                have n7_ := Aside0.mk (below_step (by repeat (first | (with_reducible first | exact HB.out | apply below_alloc | apply pw_below_drewN | apply below_drew1 | refine below_set ?_ GE249.out | refine below_set ?_ GE256.out | refine below_set ?_ GE262.out) | exact HB.out)) hb)
                clear HO_9
                clear HO247
                clear HO260
                clear BK249
                clear BK256
                clear BK262
                clear HB
                clear HO254
                have HO_9 := n0_
                have HO247 := n1_
                have HO260 := n2_
                have HO271 := n3_
                have BK249 := n4_
                have BK256 := n5_
                have BK262 := n6_
                have HB := n7_
                clear n0_ n1_ n2_ n3_ n4_ n5_ n6_ n7_
                clear hb ho58
                refine hK.out _ _ ⟨(blk_cell BK256.out 0).trans rfl, (blk_cell BK256.out 1).trans rfl⟩ (fun hHeld => ?_)
                clear hK K
                refine norm_ (a' := ?_) ?_ ?_
                rotate_left
                ·show Act.put _ (some 77) _ = _
                 simp only [Act.put, List.setIfInBounds_toArray, List.set_cons_zero, List.set_cons_succ, i64_w, i32_w]
                 rfl
                refine one_ (i := 0) (N := some 69) #[true, true, false, true, true, true, true, true, true, false, true, true, true, false, false, false, false, false, false] rfl rfl (one_of HT_.out (by kernel_rfl)) (by decide) (fun K hK => ?_)
                refine Kd.N_lit_step k32 _ 32 ?hg (N' := 69) ?hd (xs := ([] : List (S32))) (inner := []) (ok := (fun k_ => some k_ ≠ (.slice Ao32 t238.length co32 : Value).ownBlock ∧ some k_ ≠ (.slice Ao37 t245.length co37 : Value).ownBlock ∧ some k_ ≠ (.slice Ao54 t258.length co54 : Value).ownBlock ∧ some k_ ≠ (v270 : Value).ownBlock ∧ k_ ≠ gb249 ∧ k_ ≠ gb256 ∧ k_ ≠ gb262)) (okp := (fun k_ => some k_ ≠ (.slice Ao32 t238.length co32 : Value).ownBlock ∧ some k_ ≠ (.slice Ao37 t245.length co37 : Value).ownBlock ∧ some k_ ≠ (.slice Ao54 t258.length co54 : Value).ownBlock ∧ some k_ ≠ (v270 : Value).ownBlock ∧ k_ ≠ gb249 ∧ k_ ≠ gb256 ∧ k_ ≠ gb262)) ?hr ?hp (fun _ hk => hk) ((show ∀ k_, w57.heap.size ≤ k_ → (fun k_ => some k_ ≠ (.slice Ao32 t238.length co32 : Value).ownBlock ∧ some k_ ≠ (.slice Ao37 t245.length co37 : Value).ownBlock ∧ some k_ ≠ (.slice Ao54 t258.length co54 : Value).ownBlock ∧ some k_ ≠ (v270 : Value).ownBlock ∧ k_ ≠ gb249 ∧ k_ ≠ gb256 ∧ k_ ≠ gb262) k_ from fun k_ hk => ⟨Kd.fresh' (Kd.N_lt (by (with_reducible repeat (first | apply Kd.N_alloc | apply Kd.N_drewN | apply Kd.N_drew)); exact HO_9.out)) k_ hk, Kd.fresh' (Kd.R_lt (by (with_reducible repeat (first | apply Kd.R_alloc | apply Kd.R_drewN | apply Kd.R_drew)); exact HO247.out)) k_ hk, Kd.fresh' (Kd.R_lt (by (with_reducible repeat (first | apply Kd.R_alloc | apply Kd.R_drewN | apply Kd.R_drew)); exact HO260.out)) k_ hk, Kd.fresh' (Kd.N_lt (by (with_reducible repeat (first | apply Kd.N_alloc | apply Kd.N_drewN | apply Kd.N_drew)); exact HO271.out)) k_ hk, Kd.freshB (g := gb249) (o := .cells #[.int .i64 t244, .slice Ao37 t245.length co37] 26 (0, 0)) (by (with_reducible repeat (first | refine blk_drewN ?_ _ | refine blk_drew ?_ | refine blk_alloc ?_ _)); exact BK249.out) k_ hk, Kd.freshB (g := gb256) (o := .cells #[.int .i64 t251, .slice Ao45 t252.length co45] 26 (0, 0)) (by (with_reducible repeat (first | refine blk_drewN ?_ _ | refine blk_drew ?_ | refine blk_alloc ?_ _)); exact BK256.out) k_ hk, Kd.freshB (g := gb262) (o := .cells #[.int .i64 t257, .slice Ao54 t258.length co54] 26 (0, 0)) (by (with_reducible repeat (first | refine blk_drewN ?_ _ | refine blk_drew ?_ | refine blk_alloc ?_ _)); exact BK262.out) k_ hk⟩) _ (Nat.le_refl _)) (Below.refl _ _) (Nat.le_refl _) (by simp) ?_; (case hd => rfl); (case hg => rfl); (case hr => first | (go_simp; done) | (go_simp; rfl)); (case hp => exact (Reps.none _ _))
                intro v264 w59 ho60 hb hg_ hnew_
                clear hg_ hnew_
                (first | rw [← Ny263.out] at ho60 | (simp only [Int.reduceToNat] at ho60; rw [← Ny263.out] at ho60))
                have n0_ := Aside0.mk (Kd.N_elder' (by (with_reducible repeat (first | apply Kd.N_alloc | apply Kd.N_drewN | apply Kd.N_drew)); exact HO_9.out) (Kd.N_base ho60) hb)
                have n1_ := Aside0.mk (Kd.R_below (by (with_reducible repeat (first | apply Kd.R_alloc | apply Kd.R_drewN | apply Kd.R_drew)); exact HO247.out) hb)
                have n2_ := Aside0.mk (Kd.R_below (by (with_reducible repeat (first | apply Kd.R_alloc | apply Kd.R_drewN | apply Kd.R_drew)); exact HO260.out) hb)
                have n3_ := Aside0.mk (Kd.N_elder' (by (with_reducible repeat (first | apply Kd.N_alloc | apply Kd.N_drewN | apply Kd.N_drew)); exact HO271.out) (Kd.N_base ho60) hb)
                have n4_ := Aside0.mk (Kd.N_lower ho60 (below_size (by repeat (first | (with_reducible first | exact HB.out | apply below_alloc | apply pw_below_drewN | apply below_drew1 | refine below_set ?_ GE249.out | refine below_set ?_ GE256.out | refine below_set ?_ GE262.out) | exact HB.out))))
                have n5_ := Aside0.mk (blk_below (g := gb249) (o := .cells #[.int .i64 t244, .slice Ao37 t245.length co37] 26 (0, 0)) (by (with_reducible repeat (first | refine blk_drewN ?_ _ | refine blk_drew ?_ | refine blk_alloc ?_ _)); exact BK249.out) hb)
                have n6_ := Aside0.mk (blk_below (g := gb256) (o := .cells #[.int .i64 t251, .slice Ao45 t252.length co45] 26 (0, 0)) (by (with_reducible repeat (first | refine blk_drewN ?_ _ | refine blk_drew ?_ | refine blk_alloc ?_ _)); exact BK256.out) hb)
                have n7_ := Aside0.mk (blk_below (g := gb262) (o := .cells #[.int .i64 t257, .slice Ao54 t258.length co54] 26 (0, 0)) (by (with_reducible repeat (first | refine blk_drewN ?_ _ | refine blk_drew ?_ | refine blk_alloc ?_ _)); exact BK262.out) hb)
                have n8_ := Aside0.mk (below_step (by repeat (first | (with_reducible first | exact HB.out | apply below_alloc | apply pw_below_drewN | apply below_drew1 | refine below_set ?_ GE249.out | refine below_set ?_ GE256.out | refine below_set ?_ GE262.out) | exact HB.out)) hb)
                clear HO_9
                clear HO247
                clear HO260
                clear HO271
                clear BK249
                clear BK256
                clear BK262
                clear HB
                have HO_9 := n0_
                have HO247 := n1_
                have HO260 := n2_
                have HO271 := n3_
                have HO265 := n4_
                have BK249 := n5_
                have BK256 := n6_
                have BK262 := n7_
                have HB := n8_
                clear n0_ n1_ n2_ n3_ n4_ n5_ n6_ n7_ n8_
                clear hb ho60
                refine hK.out _ _ ⟨(blk_cell BK256.out 0).trans rfl, (blk_cell BK256.out 1).trans rfl⟩ (fun hHeld => ?_)
                clear hK K
                refine norm_ (a' := ?_) ?_ ?_
                rotate_left
                ·show Act.put _ (some 69) _ = _
                 simp only [Act.put, List.setIfInBounds_toArray, List.set_cons_zero, List.set_cons_succ, i64_w, i32_w]
                 rfl
                refine one_ (i := 2) (N := some 71) #[true, true, true, true, true, true, true, true, true, false, true, true, true, false, false, false, false, false, false] rfl rfl (one_of HT_.out (by kernel_rfl)) (by decide) (fun K hK => ?_)
                refine Kd.N_append_rows_step k32 (w0 := w) w.heap.size (by rfl) (.tmp 69) (.tmp 70) 30 32 (.agg #[(.int .i64 0), (.int .i64 0), (.int .i64 0), (.slice none 0 0)]) 48 rfl Try.underlying30 info32 rfl (by decide) (by omega) v264 y263 t238 _ _ _ (fun k_ => some k_ ≠ (.slice Ao37 t245.length co37 : Value).ownBlock ∧ some k_ ≠ (.slice Ao54 t258.length co54 : Value).ownBlock ∧ some k_ ≠ (v270 : Value).ownBlock ∧ k_ ≠ gb249 ∧ k_ ≠ gb256 ∧ k_ ≠ gb262) (fun k_ => ((fun k_ => some k_ ≠ (.slice Ao37 t245.length co37 : Value).ownBlock ∧ some k_ ≠ (.slice Ao54 t258.length co54 : Value).ownBlock ∧ some k_ ≠ (v270 : Value).ownBlock ∧ k_ ≠ gb249 ∧ k_ ≠ gb256 ∧ k_ ≠ gb262)) k_ ∧ some k_ ≠ (v264 : Value).ownBlock) rfl rfl ?aO ?aR (fun _ hk => hk) ?aF ?aB ?aS ?aL ?_
                (case aR => exact (by skip; exact Kd.N_F (Kd.N_mono (ok' := (fun k_ => ((fun k_ => some k_ ≠ (.slice Ao37 t245.length co37 : Value).ownBlock ∧ some k_ ≠ (.slice Ao54 t258.length co54 : Value).ownBlock ∧ some k_ ≠ (v270 : Value).ownBlock ∧ k_ ≠ gb249 ∧ k_ ≠ gb256 ∧ k_ ≠ gb262)) k_ ∧ some k_ ≠ (v264 : Value).ownBlock)) (HO_9.out) (fun k_ hk => ⟨⟨hk.1.1.1, ⟨hk.1.1.2.2.1, ⟨hk.1.2, ⟨hk.1.1.2.2.2.1, ⟨hk.1.1.2.2.2.2.1, hk.1.1.2.2.2.2.2⟩⟩⟩⟩⟩, hk.2⟩))))
                (case aB => exact (by repeat (first | (with_reducible first | exact HB.out | apply below_alloc | apply pw_below_drewN | apply below_drew1 | refine below_set ?_ GE249.out | refine below_set ?_ GE256.out | refine below_set ?_ GE262.out) | exact HB.out)))
                (case aF => exact (fun k_ hk => ⟨Kd.fresh' (Kd.R_lt (by (with_reducible repeat (first | apply Kd.R_alloc | apply Kd.R_drewN | apply Kd.R_drew)); exact HO247.out)) k_ hk, Kd.fresh' (Kd.R_lt (by (with_reducible repeat (first | apply Kd.R_alloc | apply Kd.R_drewN | apply Kd.R_drew)); exact HO260.out)) k_ hk, Kd.fresh' (Kd.N_lt (by (with_reducible repeat (first | apply Kd.N_alloc | apply Kd.N_drewN | apply Kd.N_drew)); exact HO271.out)) k_ hk, Kd.freshB (g := gb249) (o := .cells #[.int .i64 t244, .slice Ao37 t245.length co37] 26 (0, 0)) (by (with_reducible repeat (first | refine blk_drewN ?_ _ | refine blk_drew ?_ | refine blk_alloc ?_ _)); exact BK249.out) k_ hk, Kd.freshB (g := gb256) (o := .cells #[.int .i64 t251, .slice Ao45 t252.length co45] 26 (0, 0)) (by (with_reducible repeat (first | refine blk_drewN ?_ _ | refine blk_drew ?_ | refine blk_alloc ?_ _)); exact BK256.out) k_ hk, Kd.freshB (g := gb262) (o := .cells #[.int .i64 t257, .slice Ao54 t258.length co54] 26 (0, 0)) (by (with_reducible repeat (first | refine blk_drewN ?_ _ | refine blk_drew ?_ | refine blk_alloc ?_ _)); exact BK262.out) k_ hk⟩))
                (case aO => exact (by (with_reducible repeat (first | apply Kd.N_alloc | apply Kd.N_drewN | apply Kd.N_drew)); exact Kd.N_mono HO265.out (fun _ hk => ⟨hk.2.1, ⟨hk.2.2.1, ⟨hk.2.2.2.1, ⟨hk.2.2.2.2.1, ⟨hk.2.2.2.2.2.1, hk.2.2.2.2.2.2⟩⟩⟩⟩⟩)))
                (case aS => exact (below_size (by repeat (first | (with_reducible first | exact HB.out | apply below_alloc | apply pw_below_drewN | apply below_drew1 | refine below_set ?_ GE249.out | refine below_set ?_ GE256.out | refine below_set ?_ GE262.out) | exact HB.out))))
                (case aL => have := LMc19.out; omega)
                intro v267 w61 ho hb hg hat
                rw [← Ny266.out] at ho
                have n0_ := Aside0.mk (Kd.N_afterv (ok := (fun k_ => some k_ ≠ (.slice Ao37 t245.length co37 : Value).ownBlock ∧ some k_ ≠ (.slice Ao54 t258.length co54 : Value).ownBlock ∧ some k_ ≠ (v270 : Value).ownBlock ∧ k_ ≠ gb249 ∧ k_ ≠ gb256 ∧ k_ ≠ gb262)) (by (with_reducible repeat (first | apply Kd.N_alloc | apply Kd.N_drewN | apply Kd.N_drew)); exact Kd.N_mono HO_9.out (fun _ hk => ⟨⟨hk.1.1.1, ⟨hk.1.1.2.2.1, ⟨hk.1.2, ⟨hk.1.1.2.2.2.1, ⟨hk.1.1.2.2.2.2.1, hk.1.1.2.2.2.2.2⟩⟩⟩⟩⟩, hk.2⟩)) hg hat)
                have n1_ := Aside0.mk (Kd.R_over' (by (with_reducible repeat (first | apply Kd.R_alloc | apply Kd.R_drewN | apply Kd.R_drew)); exact HO247.out) (Kd.N_typed (by (with_reducible repeat (first | apply Kd.N_alloc | apply Kd.N_drewN | apply Kd.N_drew)); exact HO265.out)) (by decide) hg)
                have n2_ := Aside0.mk (blk_grown (g := gb249) (o := .cells #[.int .i64 t244, .slice Ao37 t245.length co37] 26 (0, 0)) (by (with_reducible repeat (first | refine blk_drewN ?_ _ | refine blk_drew ?_ | refine blk_alloc ?_ _)); exact BK249.out) hg (Kd.N_ne HO265.out BK249.out (by decide)))
                have n3_ := Aside0.mk (blk_grown (g := gb256) (o := .cells #[.int .i64 t251, .slice Ao45 t252.length co45] 26 (0, 0)) (by (with_reducible repeat (first | refine blk_drewN ?_ _ | refine blk_drew ?_ | refine blk_alloc ?_ _)); exact BK256.out) hg (Kd.N_ne HO265.out BK256.out (by decide)))
                have n4_ := Aside0.mk (Kd.R_over' (by (with_reducible repeat (first | apply Kd.R_alloc | apply Kd.R_drewN | apply Kd.R_drew)); exact HO260.out) (Kd.N_typed (by (with_reducible repeat (first | apply Kd.N_alloc | apply Kd.N_drewN | apply Kd.N_drew)); exact HO265.out)) (by decide) hg)
                have n5_ := Aside0.mk (blk_grown (g := gb262) (o := .cells #[.int .i64 t257, .slice Ao54 t258.length co54] 26 (0, 0)) (by (with_reducible repeat (first | refine blk_drewN ?_ _ | refine blk_drew ?_ | refine blk_alloc ?_ _)); exact BK262.out) hg (Kd.N_ne HO265.out BK262.out (by decide)))
                have n6_ := Aside0.mk (Kd.N_afterv (ok := (fun k_ => some k_ ≠ (.slice Ao32 t238.length co32 : Value).ownBlock ∧ some k_ ≠ (.slice Ao37 t245.length co37 : Value).ownBlock ∧ some k_ ≠ (.slice Ao54 t258.length co54 : Value).ownBlock ∧ k_ ≠ gb249 ∧ k_ ≠ gb256 ∧ k_ ≠ gb262)) (by (with_reducible repeat (first | apply Kd.N_alloc | apply Kd.N_drewN | apply Kd.N_drew)); exact HO271.out) hg hat)
                have n7_ := Aside0.mk (hb)
                have n8_ := Aside0.mk (ho)
                clear HO_9
                clear HO247
                clear BK249
                clear BK256
                clear HO260
                clear BK262
                clear HO271
                clear HB
                clear HO265
                have HO_9 := n0_
                have HO247 := n1_
                have BK249 := n2_
                have BK256 := n3_
                have HO260 := n4_
                have BK262 := n5_
                have HO271 := n6_
                have HB := n7_
                have HO268 := n8_
                clear n0_ n1_ n2_ n3_ n4_ n5_ n6_ n7_ n8_
                clear ho hb hg hat
                refine hK.out _ _ ⟨(blk_cell BK256.out 0).trans rfl, (blk_cell BK256.out 1).trans rfl⟩ (fun hHeld => ?_)
                clear hK K
                refine norm_ (a' := ?_) ?_ ?_
                rotate_left
                ·show Act.put _ (some 71) _ = _
                 simp only [Act.put, List.setIfInBounds_toArray, List.set_cons_zero, List.set_cons_succ, i64_w, i32_w]
                 rfl
                exact norm_ (by simp only [putAll, Act.put, List.setIfInBounds_toArray, List.set_cons_zero, List.set_cons_succ]) (hCont (v264, v267, v270) _ ⟨hHeld, (by (with_reducible repeat (first | apply Kd.R_alloc | apply Kd.R_drewN | apply Kd.R_drew)); exact Kd.R_mono HO247.out (fun _ hk => hk.2)), (by (with_reducible repeat (first | apply Kd.R_alloc | apply Kd.R_drewN | apply Kd.R_drew)); exact Kd.R_mono HO260.out (fun _ hk => hk.1)), (by (with_reducible repeat (first | apply Kd.N_alloc | apply Kd.N_drewN | apply Kd.N_drew)); exact HO268.out), (by (with_reducible repeat (first | apply Kd.N_alloc | apply Kd.N_drewN | apply Kd.N_drew)); exact Kd.N_mono HO271.out (fun _ hk => ⟨hk.1.2.1, ⟨hk.1.2.2.1, ⟨hk.2, ⟨hk.1.1, ⟨hk.1.2.2.2.1, ⟨hk.1.2.2.2.2.1, hk.1.2.2.2.2.2⟩⟩⟩⟩⟩⟩)), (by (with_reducible repeat (first | apply Kd.N_alloc | apply Kd.N_drewN | apply Kd.N_drew)); exact Kd.N_mono HO_9.out (fun _ hk => ⟨hk.1.1, ⟨hk.1.2.1, ⟨hk.2, ⟨hk.1.2.2.1, ⟨hk.1.2.2.2.1, ⟨hk.1.2.2.2.2.1, hk.1.2.2.2.2.2⟩⟩⟩⟩⟩⟩)), (by (with_reducible repeat (first | refine blk_drewN ?_ _ | refine blk_drew ?_ | refine blk_alloc ?_ _)); exact BK249.out), (by (with_reducible repeat (first | refine blk_drewN ?_ _ | refine blk_drew ?_ | refine blk_alloc ?_ _)); exact BK256.out), (by (with_reducible repeat (first | refine blk_drewN ?_ _ | refine blk_drew ?_ | refine blk_alloc ?_ _)); exact BK262.out), (by repeat (first | (with_reducible first | exact HB.out | apply below_alloc | apply pw_below_drewN | apply below_drew1 | refine below_set ?_ GE249.out | refine below_set ?_ GE256.out | refine below_set ?_ GE262.out) | exact HB.out))⟩)
              rintro ⟨v264, v267, v270⟩ w62 ⟨hS_, h0_, h1_, h2_, h3_, h4_, h5_, h6_, h7_, h8_⟩
              have n0_ : Aside0 (Kd.R k67 67 w62 w.heap.size (fun k_ => some k_ ≠ (.slice Ao54 t258.length co54 : Value).ownBlock) (.slice Ao37 t245.length co37) t245) := ⟨h0_⟩
              have n1_ : Aside0 (Kd.R k67 67 w62 w.heap.size (fun k_ => some k_ ≠ (.slice Ao37 t245.length co37 : Value).ownBlock) (.slice Ao54 t258.length co54) t258) := ⟨h1_⟩
              have n2_ : Aside0 (Kd.N k32 32 w62 w.heap.size (fun k_ => some k_ ≠ (.slice Ao37 t245.length co37 : Value).ownBlock ∧ some k_ ≠ (.slice Ao54 t258.length co54 : Value).ownBlock ∧ some k_ ≠ (v270 : Value).ownBlock ∧ k_ ≠ gb249 ∧ k_ ≠ gb256 ∧ k_ ≠ gb262) v267 y266) := ⟨h2_⟩
              have n3_ : Aside0 (Kd.N k32 32 w62 w.heap.size (fun k_ => some k_ ≠ (.slice Ao37 t245.length co37 : Value).ownBlock ∧ some k_ ≠ (.slice Ao54 t258.length co54 : Value).ownBlock ∧ some k_ ≠ (v267 : Value).ownBlock ∧ some k_ ≠ (.slice Ao32 t238.length co32 : Value).ownBlock ∧ k_ ≠ gb249 ∧ k_ ≠ gb256 ∧ k_ ≠ gb262) v270 y269) := ⟨h3_⟩
              have n4_ : Aside0 (Kd.N k32 32 w62 w.heap.size (fun k_ => some k_ ≠ (.slice Ao37 t245.length co37 : Value).ownBlock ∧ some k_ ≠ (.slice Ao54 t258.length co54 : Value).ownBlock ∧ some k_ ≠ (v267 : Value).ownBlock ∧ some k_ ≠ (v270 : Value).ownBlock ∧ k_ ≠ gb249 ∧ k_ ≠ gb256 ∧ k_ ≠ gb262) (.slice Ao32 t238.length co32) t238) := ⟨h4_⟩
              have n5_ : Aside0 (w62.heap[gb249]? = some (.cells #[.int .i64 t244, .slice Ao37 t245.length co37] 26 (0, 0))) := ⟨h5_⟩
              have n6_ : Aside0 (w62.heap[gb256]? = some (.cells #[.int .i64 t251, .slice Ao45 t252.length co45] 26 (0, 0))) := ⟨h6_⟩
              have n7_ : Aside0 (w62.heap[gb262]? = some (.cells #[.int .i64 t257, .slice Ao54 t258.length co54] 26 (0, 0))) := ⟨h7_⟩
              have n8_ : Aside0 (Below w.heap.size w w62) := ⟨h8_⟩
              clear HO_9
              clear HO247
              clear HO254
              clear HO260
              clear BK249
              clear BK256
              clear BK262
              clear HB
              clear h0_ h1_ h2_ h3_ h4_ h5_ h6_ h7_ h8_
              have HO247 := n0_
              have HO260 := n1_
              have HO268 := n2_
              have HO271 := n3_
              have HO_9 := n4_
              have BK249 := n5_
              have BK256 := n6_
              have BK262 := n7_
              have HB := n8_
              clear n0_ n1_ n2_ n3_ n4_ n5_ n6_ n7_ n8_
              have hHeld : w62.cell? ⟨gb256, 0, none⟩ = some (.int .i64 t251) ∧ w62.cell? ⟨gb256, 1, none⟩ = some (.slice Ao45 t252.length co45) := hS_
              obtain ⟨Ao64, co64, eo64⟩ := Kd.N_slice HO271.out
              (first | subst eo64 | (injection eo64 with f1_ f2_ f3_; have f4_ := f1_.symm; have f5_ := f3_.symm; clear f1_ f2_ f3_; subst f4_; subst f5_))
              refine norm_ (a' := ?_) ?_ ?_
              rotate_left
              ·simp only [putAll, Act.put, List.setIfInBounds_toArray, List.set_cons_zero, List.set_cons_succ]
               rfl
              refine one_ (i := 9) (N := some 78) #[true, true, true, true, true, true, true, true, true, true, true, true, true, false, false, false, false, false, false] rfl rfl (one_of HT_.out (by kernel_rfl)) (by decide) (fun K hK => ?_)
              refine Kd.N_append_rows_step k32 (w0 := w) w.heap.size (by rfl) (.tmp 71) (.tmp 77) 30 32 (.agg #[(.int .i64 0), (.int .i64 0), (.int .i64 0), (.slice none 0 0)]) 48 rfl Try.underlying30 info32 rfl (by decide) (by omega) v267 y266 y269 _ _ _ (fun k_ => some k_ ≠ (.slice Ao37 t245.length co37 : Value).ownBlock ∧ some k_ ≠ (.slice Ao54 t258.length co54 : Value).ownBlock ∧ k_ ≠ gb249 ∧ k_ ≠ gb256 ∧ k_ ≠ gb262) (fun k_ => ((fun k_ => some k_ ≠ (.slice Ao37 t245.length co37 : Value).ownBlock ∧ some k_ ≠ (.slice Ao54 t258.length co54 : Value).ownBlock ∧ k_ ≠ gb249 ∧ k_ ≠ gb256 ∧ k_ ≠ gb262)) k_ ∧ some k_ ≠ (v267 : Value).ownBlock) rfl rfl ?aO ?aR (fun _ hk => hk) ?aF ?aB ?aS ?aL ?_
              (case aR => exact (by skip; exact Kd.N_F (Kd.N_mono (ok' := (fun k_ => ((fun k_ => some k_ ≠ (.slice Ao37 t245.length co37 : Value).ownBlock ∧ some k_ ≠ (.slice Ao54 t258.length co54 : Value).ownBlock ∧ k_ ≠ gb249 ∧ k_ ≠ gb256 ∧ k_ ≠ gb262)) k_ ∧ some k_ ≠ (v267 : Value).ownBlock)) (HO271.out) (fun k_ hk => ⟨⟨hk.1, ⟨hk.2.1, ⟨hk.2.2.2.2.1, ⟨hk.2.2.2.2.2.1, hk.2.2.2.2.2.2⟩⟩⟩⟩, hk.2.2.1⟩))))
              (case aB => exact (by repeat (first | (with_reducible first | exact HB.out | apply below_alloc | apply pw_below_drewN | apply below_drew1 | refine below_set ?_ GE249.out | refine below_set ?_ GE256.out | refine below_set ?_ GE262.out) | exact HB.out)))
              (case aF => exact (fun k_ hk => ⟨Kd.fresh' (Kd.R_lt (by (with_reducible repeat (first | apply Kd.R_alloc | apply Kd.R_drewN | apply Kd.R_drew)); exact HO247.out)) k_ hk, Kd.fresh' (Kd.R_lt (by (with_reducible repeat (first | apply Kd.R_alloc | apply Kd.R_drewN | apply Kd.R_drew)); exact HO260.out)) k_ hk, Kd.freshB (g := gb249) (o := .cells #[.int .i64 t244, .slice Ao37 t245.length co37] 26 (0, 0)) (by (with_reducible repeat (first | refine blk_drewN ?_ _ | refine blk_drew ?_ | refine blk_alloc ?_ _)); exact BK249.out) k_ hk, Kd.freshB (g := gb256) (o := .cells #[.int .i64 t251, .slice Ao45 t252.length co45] 26 (0, 0)) (by (with_reducible repeat (first | refine blk_drewN ?_ _ | refine blk_drew ?_ | refine blk_alloc ?_ _)); exact BK256.out) k_ hk, Kd.freshB (g := gb262) (o := .cells #[.int .i64 t257, .slice Ao54 t258.length co54] 26 (0, 0)) (by (with_reducible repeat (first | refine blk_drewN ?_ _ | refine blk_drew ?_ | refine blk_alloc ?_ _)); exact BK262.out) k_ hk⟩))
              (case aO => exact (by (with_reducible repeat (first | apply Kd.N_alloc | apply Kd.N_drewN | apply Kd.N_drew)); exact Kd.N_mono HO268.out (fun _ hk => ⟨hk.1, ⟨hk.2.1, ⟨hk.2.2.2.1, ⟨hk.2.2.2.2.1, hk.2.2.2.2.2⟩⟩⟩⟩)))
              (case aS => exact (below_size (by repeat (first | (with_reducible first | exact HB.out | apply below_alloc | apply pw_below_drewN | apply below_drew1 | refine below_set ?_ GE249.out | refine below_set ?_ GE256.out | refine below_set ?_ GE262.out) | exact HB.out))))
              (case aL => have := LMc20.out; omega)
              intro v273 w63 ho hb hg hat
              rw [← Ny272.out] at ho
              have n0_ := Aside0.mk (Kd.N_afterv (ok := (fun k_ => some k_ ≠ (.slice Ao37 t245.length co37 : Value).ownBlock ∧ some k_ ≠ (.slice Ao54 t258.length co54 : Value).ownBlock ∧ some k_ ≠ (.slice Ao64 y269.length co64 : Value).ownBlock ∧ k_ ≠ gb249 ∧ k_ ≠ gb256 ∧ k_ ≠ gb262)) (by (with_reducible repeat (first | apply Kd.N_alloc | apply Kd.N_drewN | apply Kd.N_drew)); exact Kd.N_mono HO_9.out (fun _ hk => ⟨⟨hk.1, ⟨hk.2.1, ⟨hk.2.2.2.1, ⟨hk.2.2.2.2.1, ⟨hk.2.2.2.2.2.1, hk.2.2.2.2.2.2⟩⟩⟩⟩⟩, hk.2.2.1⟩)) hg hat)
              have n1_ := Aside0.mk (Kd.R_over' (by (with_reducible repeat (first | apply Kd.R_alloc | apply Kd.R_drewN | apply Kd.R_drew)); exact HO247.out) (Kd.N_typed (by (with_reducible repeat (first | apply Kd.N_alloc | apply Kd.N_drewN | apply Kd.N_drew)); exact HO268.out)) (by decide) hg)
              have n2_ := Aside0.mk (blk_grown (g := gb249) (o := .cells #[.int .i64 t244, .slice Ao37 t245.length co37] 26 (0, 0)) (by (with_reducible repeat (first | refine blk_drewN ?_ _ | refine blk_drew ?_ | refine blk_alloc ?_ _)); exact BK249.out) hg (Kd.N_ne HO268.out BK249.out (by decide)))
              have n3_ := Aside0.mk (blk_grown (g := gb256) (o := .cells #[.int .i64 t251, .slice Ao45 t252.length co45] 26 (0, 0)) (by (with_reducible repeat (first | refine blk_drewN ?_ _ | refine blk_drew ?_ | refine blk_alloc ?_ _)); exact BK256.out) hg (Kd.N_ne HO268.out BK256.out (by decide)))
              have n4_ := Aside0.mk (Kd.R_over' (by (with_reducible repeat (first | apply Kd.R_alloc | apply Kd.R_drewN | apply Kd.R_drew)); exact HO260.out) (Kd.N_typed (by (with_reducible repeat (first | apply Kd.N_alloc | apply Kd.N_drewN | apply Kd.N_drew)); exact HO268.out)) (by decide) hg)
              have n5_ := Aside0.mk (blk_grown (g := gb262) (o := .cells #[.int .i64 t257, .slice Ao54 t258.length co54] 26 (0, 0)) (by (with_reducible repeat (first | refine blk_drewN ?_ _ | refine blk_drew ?_ | refine blk_alloc ?_ _)); exact BK262.out) hg (Kd.N_ne HO268.out BK262.out (by decide)))
              have n6_ := Aside0.mk (Kd.N_afterv (ok := (fun k_ => some k_ ≠ (.slice Ao32 t238.length co32 : Value).ownBlock ∧ some k_ ≠ (.slice Ao37 t245.length co37 : Value).ownBlock ∧ some k_ ≠ (.slice Ao54 t258.length co54 : Value).ownBlock ∧ k_ ≠ gb249 ∧ k_ ≠ gb256 ∧ k_ ≠ gb262)) (by (with_reducible repeat (first | apply Kd.N_alloc | apply Kd.N_drewN | apply Kd.N_drew)); exact Kd.N_mono HO271.out (fun _ hk => ⟨⟨hk.2.2.2.1, ⟨hk.1, ⟨hk.2.1, ⟨hk.2.2.2.2.1, ⟨hk.2.2.2.2.2.1, hk.2.2.2.2.2.2⟩⟩⟩⟩⟩, hk.2.2.1⟩)) hg hat)
              have n7_ := Aside0.mk (hb)
              have n8_ := Aside0.mk (ho)
              clear HO_9
              clear HO247
              clear BK249
              clear BK256
              clear HO260
              clear BK262
              clear HO271
              clear HB
              clear HO268
              have HO_9 := n0_
              have HO247 := n1_
              have BK249 := n2_
              have BK256 := n3_
              have HO260 := n4_
              have BK262 := n5_
              have HO271 := n6_
              have HB := n7_
              have HO274 := n8_
              clear n0_ n1_ n2_ n3_ n4_ n5_ n6_ n7_ n8_
              clear ho hb hg hat
              obtain ⟨Ao65, co65, eo65⟩ := Kd.N_slice HO274.out
              (first | subst eo65 | (injection eo65 with f1_ f2_ f3_; have f4_ := f1_.symm; have f5_ := f3_.symm; clear f1_ f2_ f3_; subst f4_; subst f5_))
              refine hK.out _ _ ⟨(blk_cell BK256.out 0).trans rfl, (blk_cell BK256.out 1).trans rfl⟩ (fun hHeld => ?_)
              clear hK K
              refine norm_ (a' := ?_) ?_ ?_
              rotate_left
              ·show Act.put _ (some 78) _ = _
               simp only [Act.put, List.setIfInBounds_toArray, List.set_cons_zero, List.set_cons_succ, i64_w, i32_w]
               rfl
              refine one_ (i := 13) (N := some 82) #[true, true, true, true, true, true, true, true, true, true, true, true, true, true, false, false, false, false, false] rfl rfl (one_of HT_.out (by kernel_rfl)) (by decide) (fun K hK => ?_)
              refine goes_ Try.func13 (by kernel_rfl) rfl #[.slice Ao65 y272.length co65, .int .i64 (wrap64 ((t238.length : Int) + 1)), .int .i64 t241] (by rfl) rfl rfl (by (try simp only [List.map_toArray, List.map_cons, List.map_nil]); first | done | rfl | (simp only [List.length_drop, List.length_take]; rfl)) ?_
              with_reducible refine (chain_Read.calls _ _ y272 (wrap64 ((t238.length : Int) + 1)) t241 t275 t276 _ ?side1 ?side2 A21.out).mono ?_
              (case side1 => repeat (first | exact (Kd.N_reads' HO274.out).2.2 | (with_reducible refine Kd.C_alloc ?_ _) | (with_reducible refine Kd.C_drewN ?_ _) | (with_reducible refine Kd.C_drew ?_)))
              (case side2 => exact (Kd.N_reads' HO274.out).2.1)
              rintro e w66 ⟨rfl, hb⟩
              refine ⟨_, rfl, ?_⟩
              have n0_ := Aside0.mk (Kd.N_below (by (with_reducible repeat (first | apply Kd.N_alloc | apply Kd.N_drewN | apply Kd.N_drew)); exact HO_9.out) hb)
              have n1_ := Aside0.mk (Kd.R_below (by (with_reducible repeat (first | apply Kd.R_alloc | apply Kd.R_drewN | apply Kd.R_drew)); exact HO247.out) hb)
              have n2_ := Aside0.mk (Kd.R_below (by (with_reducible repeat (first | apply Kd.R_alloc | apply Kd.R_drewN | apply Kd.R_drew)); exact HO260.out) hb)
              have n3_ := Aside0.mk (Kd.N_below (by (with_reducible repeat (first | apply Kd.N_alloc | apply Kd.N_drewN | apply Kd.N_drew)); exact HO271.out) hb)
              have n4_ := Aside0.mk (Kd.N_below (by (with_reducible repeat (first | apply Kd.N_alloc | apply Kd.N_drewN | apply Kd.N_drew)); exact HO274.out) hb)
              have n5_ := Aside0.mk (blk_below (g := gb249) (o := .cells #[.int .i64 t244, .slice Ao37 t245.length co37] 26 (0, 0)) (by (with_reducible repeat (first | refine blk_drewN ?_ _ | refine blk_drew ?_ | refine blk_alloc ?_ _)); exact BK249.out) hb)
              have n6_ := Aside0.mk (blk_below (g := gb256) (o := .cells #[.int .i64 t251, .slice Ao45 t252.length co45] 26 (0, 0)) (by (with_reducible repeat (first | refine blk_drewN ?_ _ | refine blk_drew ?_ | refine blk_alloc ?_ _)); exact BK256.out) hb)
              have n7_ := Aside0.mk (blk_below (g := gb262) (o := .cells #[.int .i64 t257, .slice Ao54 t258.length co54] 26 (0, 0)) (by (with_reducible repeat (first | refine blk_drewN ?_ _ | refine blk_drew ?_ | refine blk_alloc ?_ _)); exact BK262.out) hb)
              have n8_ := Aside0.mk (below_step (by repeat (first | (with_reducible first | exact HB.out | apply below_alloc | apply pw_below_drewN | apply below_drew1 | refine below_set ?_ GE249.out | refine below_set ?_ GE256.out | refine below_set ?_ GE262.out) | exact HB.out)) hb)
              clear HO_9
              clear HO247
              clear HO260
              clear HO271
              clear HO274
              clear BK249
              clear BK256
              clear BK262
              clear HB
              have HO_9 := n0_
              have HO247 := n1_
              have HO260 := n2_
              have HO271 := n3_
              have HO274 := n4_
              have BK249 := n5_
              have BK256 := n6_
              have BK262 := n7_
              have HB := n8_
              clear n0_ n1_ n2_ n3_ n4_ n5_ n6_ n7_ n8_
              (try clear hb)
              (try clear hb2)
              (try clear hk)
              (try clear hi)
              refine hK.out _ _ ⟨(blk_cell BK256.out 0).trans rfl, (blk_cell BK256.out 1).trans rfl⟩ (fun hHeld => ?_)
              clear hK K
              refine norm_ (a' := ?_) ?_ ?_
              rotate_left
              ·show Act.put _ (some 82) _ = _
               simp only [Act.put, List.setIfInBounds_toArray, List.set_cons_zero, List.set_cons_succ, i64_w, i32_w]
               rfl
              refine pure_ (i := 14) (N := some 68) (v := ?_) (a' := ?_) #[true, true, true, true, true, true, true, true, true, true, true, true, true, true, true, false, false, false, false] rfl rfl (any_of HT_.out (by kernel_rfl)) (fun _ _ _ h => h) (Or.inl ⟨by rfl, ?_⟩) ?_ ?_
              rotate_left
              ·intro w'
               go_simp
               with_reducible rfl
              rotate_left
              ·simp only [Act.put, List.setIfInBounds_toArray, List.set_cons_zero, List.set_cons_succ, i64_w, i32_w]
               rfl
              refine pure_ (i := 15) (N := some 83) (v := ?_) (a' := ?_) #[true, true, true, true, true, true, true, true, true, true, true, true, true, true, true, true, false, false, false] rfl rfl (any_of HT_.out (by kernel_rfl)) (fun _ _ _ h => h) (Or.inl ⟨by rfl, ?_⟩) ?_ ?_
              rotate_left
              ·intro w'
               go_simp
               with_reducible rfl
              rotate_left
              ·simp only [Act.put, List.setIfInBounds_toArray, List.set_cons_zero, List.set_cons_succ, i64_w, i32_w]
               rfl
              refine pure_ (i := 16) (N := some 84) (v := ?_) (a' := ?_) #[true, true, true, true, true, true, true, true, true, true, true, true, true, true, true, true, true, false, false] rfl rfl (any_of HT_.out (by kernel_rfl)) (fun _ _ _ h => h) (Or.inl ⟨by rfl, ?_⟩) ?_ ?_
              rotate_left
              ·intro w'
               go_simp
               with_reducible rfl
              rotate_left
              ·simp only [Act.put, List.setIfInBounds_toArray, List.set_cons_zero, List.set_cons_succ, i64_w, i32_w]
               rfl
              refine pure_ (i := 17) (N := some 19) (v := ?_) (a' := ?_) #[true, true, true, true, true, true, true, true, true, true, true, true, true, true, true, true, true, true, false] rfl rfl (any_of HT_.out (by kernel_rfl)) (fun _ _ _ h => h) (Or.inl ⟨by rfl, ?_⟩) ?_ ?_
              rotate_left
              ·intro w'
               go_simp
               with_reducible rfl
              rotate_left
              ·simp only [Act.put, List.setIfInBounds_toArray, List.set_cons_zero, List.set_cons_succ, i64_w, i32_w]
               rfl
              refine pure_ (i := 18) (N := some 20) (v := ?_) (a' := ?_) #[true, true, true, true, true, true, true, true, true, true, true, true, true, true, true, true, true, true, true] rfl rfl (any_of HT_.out (by kernel_rfl)) (fun _ _ _ h => h) (Or.inl ⟨by rfl, ?_⟩) ?_ ?_
              rotate_left
              ·intro w'
               go_simp
               with_reducible rfl
              rotate_left
              ·simp only [Act.put, List.setIfInBounds_toArray, List.set_cons_zero, List.set_cons_succ, i64_w, i32_w]
               rfl
              refine done_ (done_of HT_.out (by kernel_rfl)) ?_
              try go_wp2
              have n0_ := Aside0.mk (Kd.N_drew HO_9.out)
              have n1_ := Aside0.mk (Kd.R_drew HO247.out)
              have n2_ := Aside0.mk (Kd.R_drew HO260.out)
              have n3_ := Aside0.mk (Kd.N_drew HO271.out)
              have n4_ := Aside0.mk (Kd.N_drew HO274.out)
              have n5_ := Aside0.mk (blk_drew BK249.out)
              have n6_ := Aside0.mk (blk_drew BK256.out)
              have n7_ := Aside0.mk (blk_drew BK262.out)
              have n8_ := Aside0.mk (below_drew1 HB.out)
              clear HO_9
              clear HO247
              clear HO260
              clear HO271
              clear HO274
              clear BK249
              clear BK256
              clear BK262
              clear HB
              have HO_9 := n0_
              have HO247 := n1_
              have HO260 := n2_
              have HO271 := n3_
              have HO274 := n4_
              have BK249 := n5_
              have BK256 := n6_
              have BK262 := n7_
              have HB := n8_
              clear n0_ n1_ n2_ n3_ n4_ n5_ n6_ n7_ n8_
              refine start_ (n := 19) (S := fun w' => w'.cell? ⟨gb262, 0, none⟩ = some (.int .i64 t257) ∧ w'.cell? ⟨gb262, 1, none⟩ = some (.slice Ao54 t258.length co54)) (ds := []) #[false, false, false, false, false, false, false, false, false, false, false, false, false, false, false, false, false, false, false] (by kernel_rfl) rfl rfl ⟨(blk_cell BK262.out 0).trans rfl, (blk_cell BK262.out 1).trans rfl⟩ (fun hHeld => ?_); refine with_tabW rootcellarlaw11_ChainMarks.tab13 rootcellarlaw11_ChainMarks.bits13 (fun HT_ HW_ => ?_)
              generalize w66.drew = w67 at HO_9 HO247 HO260 HO271 HO274 BK249 BK256 BK262 HB hHeld ⊢
              refine pure_ (i := 1) (N := some 87) (v := ?_) (a' := ?_) #[false, true, false, false, false, false, false, false, false, false, false, false, false, false, false, false, false, false, false] rfl rfl (any_of HT_.out (by kernel_rfl)) (fun _ _ _ h => h) (Or.inl ⟨by rfl, ?_⟩) ?_ ?_
              rotate_left
              ·intro w'
               go_simp
               with_reducible rfl
              rotate_left
              ·simp only [Act.put, List.setIfInBounds_toArray, List.set_cons_zero, List.set_cons_succ, i64_w, i32_w]
               rfl
              refine pure_ (i := 3) (N := some 89) (v := ?_) (a' := ?_) #[false, true, false, true, false, false, false, false, false, false, false, false, false, false, false, false, false, false, false] rfl rfl (any_of HT_.out (by kernel_rfl)) (fun _ _ _ h => h) (Or.inl ⟨by rfl, ?_⟩) ?_ ?_
              rotate_left
              ·intro w'
               go_simp
               with_reducible rfl
              rotate_left
              ·simp only [Act.put, List.setIfInBounds_toArray, List.set_cons_zero, List.set_cons_succ, i64_w, i32_w]
               rfl
              refine pure_ (i := 4) (N := some 90) (v := ?_) (a' := ?_) #[false, true, false, true, true, false, false, false, false, false, false, false, false, false, false, false, false, false, false] rfl rfl (any_of HT_.out (by kernel_rfl)) (fun _ _ _ h => h) (Or.inl ⟨by rfl, ?_⟩) ?_ ?_
              rotate_left
              ·intro w'
               go_simp
               with_reducible rfl
              rotate_left
              ·simp only [Act.put, List.setIfInBounds_toArray, List.set_cons_zero, List.set_cons_succ, i64_w, i32_w]
               rfl
              refine pure_ (i := 5) (N := some 91) (v := ?_) (a' := ?_) #[false, true, false, true, true, true, false, false, false, false, false, false, false, false, false, false, false, false, false] rfl rfl (any_of HT_.out (by kernel_rfl)) (fun _ _ _ h => h) (Or.inl ⟨by rfl, ?_⟩) ?_ ?_
              rotate_left
              ·intro w'
               go_simp
               with_reducible rfl
              rotate_left
              ·simp only [Act.put, List.setIfInBounds_toArray, List.set_cons_zero, List.set_cons_succ, i64_w, i32_w]
               rfl
              refine pure_ (i := 10) (N := some 96) (v := ?_) (a' := ?_) #[false, true, false, true, true, true, false, false, false, false, true, false, false, false, false, false, false, false, false] rfl rfl (any_of HT_.out (by kernel_rfl)) (fun _ _ _ h => h) (Or.inl ⟨by rfl, ?_⟩) ?_ ?_
              rotate_left
              ·intro w'
               go_simp
               with_reducible rfl
              rotate_left
              ·simp only [Act.put, List.setIfInBounds_toArray, List.set_cons_zero, List.set_cons_succ, i64_w, i32_w]
               rfl
              refine pure_ (i := 11) (N := some 97) (v := ?_) (a' := ?_) #[false, true, false, true, true, true, false, false, false, false, true, true, false, false, false, false, false, false, false] rfl rfl (any_of HT_.out (by kernel_rfl)) (fun _ _ _ h => h) (Or.inl ⟨by rfl, ?_⟩) ?_ ?_
              rotate_left
              ·intro w'
               go_simp
               with_reducible rfl
              rotate_left
              ·simp only [Act.put, List.setIfInBounds_toArray, List.set_cons_zero, List.set_cons_succ, i64_w, i32_w]
               rfl
              refine pure_ (i := 12) (N := some 98) (v := ?_) (a' := ?_) #[false, true, false, true, true, true, false, false, false, false, true, true, true, false, false, false, false, false, false] rfl rfl (any_of HT_.out (by kernel_rfl)) (fun _ _ _ h => h) (Or.inl ⟨by rfl, ?_⟩) ?_ ?_
              rotate_left
              ·intro w'
               go_simp
               with_reducible rfl
              rotate_left
              ·simp only [Act.put, List.setIfInBounds_toArray, List.set_cons_zero, List.set_cons_succ, i64_w, i32_w]
               rfl
              refine take_ (i := 6) (N := some 92) (v := ?_) (a' := ?_) #[false, true, false, true, true, true, true, false, false, false, true, true, true, false, false, false, false, false, false] rfl rfl (take_ofW HT_.out HW_.out (by kernel_rfl)) (fun _ _ _ h => h) (Or.inl ⟨by rfl, ?_⟩) hHeld ?_ ?_
              rotate_left
              ·rintro w' ⟨s0, s1⟩
               go_simp
               with_reducible rfl
              rotate_left
              ·simp only [Act.put, List.setIfInBounds_toArray, List.set_cons_zero, List.set_cons_succ, i64_w, i32_w]
               rfl
              refine pure_ (i := 7) (N := some 93) (v := ?_) (a' := ?_) #[false, true, false, true, true, true, true, true, false, false, true, true, true, false, false, false, false, false, false] rfl rfl (any_of HT_.out (by kernel_rfl)) (fun _ _ _ h => h) (Or.inl ⟨by rfl, ?_⟩) ?_ ?_
              rotate_left
              ·intro w'
               go_simp
               with_reducible rfl
              rotate_left
              ·simp only [Act.put, List.setIfInBounds_toArray, List.set_cons_zero, List.set_cons_succ, i64_w, i32_w]
               rfl
              refine join_ (σ := Value × Value × Value) 7 #[true, true, true, true, true, true, true, true, true, false, true, true, true, false, false, false, false, false, false] (fun s_ => [(86, s_.1), (88, s_.2.1), (94, s_.2.2)]) (fun s_ w' => (w'.cell? ⟨gb262, 0, none⟩ = some (.int .i64 t257) ∧ w'.cell? ⟨gb262, 1, none⟩ = some (.slice Ao54 t258.length co54)) ∧ (Kd.R k67 67 w' w.heap.size (fun _ => True) (.slice Ao37 t245.length co37) t245) ∧ (Kd.N k32 32 w' w.heap.size (fun k_ => some k_ ≠ (.slice Ao37 t245.length co37 : Value).ownBlock ∧ some k_ ≠ (.slice Ao65 y272.length co65 : Value).ownBlock ∧ some k_ ≠ (s_.2.1 : Value).ownBlock ∧ some k_ ≠ (s_.2.2 : Value).ownBlock ∧ some k_ ≠ (.slice Ao32 t238.length co32 : Value).ownBlock ∧ k_ ≠ gb249 ∧ k_ ≠ gb256 ∧ k_ ≠ gb262) (.slice Ao64 y269.length co64) y269) ∧ (Kd.N k32 32 w' w.heap.size (fun k_ => some k_ ≠ (.slice Ao37 t245.length co37 : Value).ownBlock ∧ some k_ ≠ (s_.2.1 : Value).ownBlock ∧ some k_ ≠ (s_.2.2 : Value).ownBlock ∧ k_ ≠ gb249 ∧ k_ ≠ gb256 ∧ k_ ≠ gb262) (.slice Ao65 y272.length co65) y272) ∧ (Kd.N k32 32 w' w.heap.size (fun k_ => some k_ ≠ (.slice Ao37 t245.length co37 : Value).ownBlock ∧ some k_ ≠ (.slice Ao64 y269.length co64 : Value).ownBlock ∧ some k_ ≠ (.slice Ao65 y272.length co65 : Value).ownBlock ∧ some k_ ≠ (s_.2.2 : Value).ownBlock ∧ k_ ≠ gb249 ∧ k_ ≠ gb256 ∧ k_ ≠ gb262) s_.2.1 y280) ∧ (Kd.N k32 32 w' w.heap.size (fun k_ => some k_ ≠ (.slice Ao37 t245.length co37 : Value).ownBlock ∧ some k_ ≠ (.slice Ao64 y269.length co64 : Value).ownBlock ∧ some k_ ≠ (.slice Ao65 y272.length co65 : Value).ownBlock ∧ some k_ ≠ (s_.2.1 : Value).ownBlock ∧ some k_ ≠ (.slice Ao32 t238.length co32 : Value).ownBlock ∧ k_ ≠ gb249 ∧ k_ ≠ gb256 ∧ k_ ≠ gb262) s_.2.2 y283) ∧ (Kd.N k32 32 w' w.heap.size (fun k_ => some k_ ≠ (.slice Ao37 t245.length co37 : Value).ownBlock ∧ some k_ ≠ (.slice Ao64 y269.length co64 : Value).ownBlock ∧ some k_ ≠ (.slice Ao65 y272.length co65 : Value).ownBlock ∧ some k_ ≠ (s_.2.1 : Value).ownBlock ∧ some k_ ≠ (s_.2.2 : Value).ownBlock ∧ k_ ≠ gb249 ∧ k_ ≠ gb256 ∧ k_ ≠ gb262) (.slice Ao32 t238.length co32) t238) ∧ (w'.heap[gb249]? = some (.cells #[.int .i64 t244, .slice Ao37 t245.length co37] 26 (0, 0))) ∧ (w'.heap[gb256]? = some (.cells #[.int .i64 t251, .slice Ao45 t252.length co45] 26 (0, 0))) ∧ (w'.heap[gb262]? = some (.cells #[.int .i64 t257, .slice Ao54 t258.length co54] 26 (0, 0))) ∧ (Below w.heap.size w w')) ?_ ?_
              rotate_left
              ·intro hCont
               refine two_ (i := 0) (j := 8) (Ni := some 86) (Nj := some 94) #[true, true, false, true, true, true, true, true, false, false, true, true, true, false, false, false, false, false, false] #[false, true, false, true, true, true, true, true, true, false, true, true, true, false, false, false, false, false, false] rfl rfl rfl rfl (two_of HT_.out (by kernel_rfl)) (by decide) (by decide) (fun K hK => ?_) (fun K hK => ?_)
               ·skip
                refine Kd.N_lit_step k32 _ 32 ?hg (N' := 86) ?hd (xs := ([] : List (S32))) (inner := []) (ok := (fun k_ => some k_ ≠ (.slice Ao32 t238.length co32 : Value).ownBlock ∧ some k_ ≠ (.slice Ao37 t245.length co37 : Value).ownBlock ∧ some k_ ≠ (.slice Ao54 t258.length co54 : Value).ownBlock ∧ some k_ ≠ (.slice Ao64 y269.length co64 : Value).ownBlock ∧ some k_ ≠ (.slice Ao65 y272.length co65 : Value).ownBlock ∧ k_ ≠ gb249 ∧ k_ ≠ gb256 ∧ k_ ≠ gb262)) (okp := (fun k_ => some k_ ≠ (.slice Ao32 t238.length co32 : Value).ownBlock ∧ some k_ ≠ (.slice Ao37 t245.length co37 : Value).ownBlock ∧ some k_ ≠ (.slice Ao54 t258.length co54 : Value).ownBlock ∧ some k_ ≠ (.slice Ao64 y269.length co64 : Value).ownBlock ∧ some k_ ≠ (.slice Ao65 y272.length co65 : Value).ownBlock ∧ k_ ≠ gb249 ∧ k_ ≠ gb256 ∧ k_ ≠ gb262)) ?hr ?hp (fun _ hk => hk) ((show ∀ k_, w67.heap.size ≤ k_ → (fun k_ => some k_ ≠ (.slice Ao32 t238.length co32 : Value).ownBlock ∧ some k_ ≠ (.slice Ao37 t245.length co37 : Value).ownBlock ∧ some k_ ≠ (.slice Ao54 t258.length co54 : Value).ownBlock ∧ some k_ ≠ (.slice Ao64 y269.length co64 : Value).ownBlock ∧ some k_ ≠ (.slice Ao65 y272.length co65 : Value).ownBlock ∧ k_ ≠ gb249 ∧ k_ ≠ gb256 ∧ k_ ≠ gb262) k_ from fun k_ hk => ⟨Kd.fresh' (Kd.N_lt (by (with_reducible repeat (first | apply Kd.N_alloc | apply Kd.N_drewN | apply Kd.N_drew)); exact HO_9.out)) k_ hk, Kd.fresh' (Kd.R_lt (by (with_reducible repeat (first | apply Kd.R_alloc | apply Kd.R_drewN | apply Kd.R_drew)); exact HO247.out)) k_ hk, Kd.fresh' (Kd.R_lt (by (with_reducible repeat (first | apply Kd.R_alloc | apply Kd.R_drewN | apply Kd.R_drew)); exact HO260.out)) k_ hk, Kd.fresh' (Kd.N_lt (by (with_reducible repeat (first | apply Kd.N_alloc | apply Kd.N_drewN | apply Kd.N_drew)); exact HO271.out)) k_ hk, Kd.fresh' (Kd.N_lt (by (with_reducible repeat (first | apply Kd.N_alloc | apply Kd.N_drewN | apply Kd.N_drew)); exact HO274.out)) k_ hk, Kd.freshB (g := gb249) (o := .cells #[.int .i64 t244, .slice Ao37 t245.length co37] 26 (0, 0)) (by (with_reducible repeat (first | refine blk_drewN ?_ _ | refine blk_drew ?_ | refine blk_alloc ?_ _)); exact BK249.out) k_ hk, Kd.freshB (g := gb256) (o := .cells #[.int .i64 t251, .slice Ao45 t252.length co45] 26 (0, 0)) (by (with_reducible repeat (first | refine blk_drewN ?_ _ | refine blk_drew ?_ | refine blk_alloc ?_ _)); exact BK256.out) k_ hk, Kd.freshB (g := gb262) (o := .cells #[.int .i64 t257, .slice Ao54 t258.length co54] 26 (0, 0)) (by (with_reducible repeat (first | refine blk_drewN ?_ _ | refine blk_drew ?_ | refine blk_alloc ?_ _)); exact BK262.out) k_ hk⟩) _ (Nat.le_refl _)) (Below.refl _ _) (Nat.le_refl _) (by simp) ?_; (case hd => rfl); (case hg => rfl); (case hr => first | (go_simp; done) | (go_simp; rfl)); (case hp => exact (Reps.none _ _))
                intro v278 w68 ho69 hb hg_ hnew_
                clear hg_ hnew_
                (first | rw [← Ny277.out] at ho69 | (simp only [Int.reduceToNat] at ho69; rw [← Ny277.out] at ho69))
                have n0_ := Aside0.mk (Kd.N_elder' (by (with_reducible repeat (first | apply Kd.N_alloc | apply Kd.N_drewN | apply Kd.N_drew)); exact HO_9.out) (Kd.N_base ho69) hb)
                have n1_ := Aside0.mk (Kd.R_below (by (with_reducible repeat (first | apply Kd.R_alloc | apply Kd.R_drewN | apply Kd.R_drew)); exact HO247.out) hb)
                have n2_ := Aside0.mk (Kd.R_below (by (with_reducible repeat (first | apply Kd.R_alloc | apply Kd.R_drewN | apply Kd.R_drew)); exact HO260.out) hb)
                have n3_ := Aside0.mk (Kd.N_elder' (by (with_reducible repeat (first | apply Kd.N_alloc | apply Kd.N_drewN | apply Kd.N_drew)); exact HO271.out) (Kd.N_base ho69) hb)
                have n4_ := Aside0.mk (Kd.N_elder' (by (with_reducible repeat (first | apply Kd.N_alloc | apply Kd.N_drewN | apply Kd.N_drew)); exact HO274.out) (Kd.N_base ho69) hb)
                have n5_ := Aside0.mk (Kd.N_lower ho69 (below_size (by repeat (first | (with_reducible first | exact HB.out | apply below_alloc | apply pw_below_drewN | apply below_drew1 | refine below_set ?_ GE249.out | refine below_set ?_ GE256.out | refine below_set ?_ GE262.out) | exact HB.out))))
                have n6_ := Aside0.mk (blk_below (g := gb249) (o := .cells #[.int .i64 t244, .slice Ao37 t245.length co37] 26 (0, 0)) (by (with_reducible repeat (first | refine blk_drewN ?_ _ | refine blk_drew ?_ | refine blk_alloc ?_ _)); exact BK249.out) hb)
                have n7_ := Aside0.mk (blk_below (g := gb256) (o := .cells #[.int .i64 t251, .slice Ao45 t252.length co45] 26 (0, 0)) (by (with_reducible repeat (first | refine blk_drewN ?_ _ | refine blk_drew ?_ | refine blk_alloc ?_ _)); exact BK256.out) hb)
                have n8_ := Aside0.mk (blk_below (g := gb262) (o := .cells #[.int .i64 t257, .slice Ao54 t258.length co54] 26 (0, 0)) (by (with_reducible repeat (first | refine blk_drewN ?_ _ | refine blk_drew ?_ | refine blk_alloc ?_ _)); exact BK262.out) hb)
                have n9_ := Aside0.mk (below_step (by repeat (first | (with_reducible first | exact HB.out | apply below_alloc | apply pw_below_drewN | apply below_drew1 | refine below_set ?_ GE249.out | refine below_set ?_ GE256.out | refine below_set ?_ GE262.out) | exact HB.out)) hb)
                clear HO_9
                clear HO247
                clear HO260
                clear HO271
                clear HO274
                clear BK249
                clear BK256
                clear BK262
                clear HB
                have HO_9 := n0_
                have HO247 := n1_
                have HO260 := n2_
                have HO271 := n3_
                have HO274 := n4_
                have HO279 := n5_
                have BK249 := n6_
                have BK256 := n7_
                have BK262 := n8_
                have HB := n9_
                clear n0_ n1_ n2_ n3_ n4_ n5_ n6_ n7_ n8_ n9_
                clear hb ho69
                refine hK.out _ _ ⟨(blk_cell BK262.out 0).trans rfl, (blk_cell BK262.out 1).trans rfl⟩ (fun hHeld => ?_)
                clear hK K
                refine norm_ (a' := ?_) ?_ ?_
                rotate_left
                ·show Act.put _ (some 86) _ = _
                 simp only [Act.put, List.setIfInBounds_toArray, List.set_cons_zero, List.set_cons_succ, i64_w, i32_w]
                 rfl
                refine two_ (i := 2) (j := 8) (Ni := some 88) (Nj := some 94) #[true, true, true, true, true, true, true, true, false, false, true, true, true, false, false, false, false, false, false] #[true, true, false, true, true, true, true, true, true, false, true, true, true, false, false, false, false, false, false] rfl rfl rfl rfl (two_of HT_.out (by kernel_rfl)) (by decide) (by decide) (fun K hK => ?_) (fun K hK => ?_)
                ·skip
                 refine Kd.N_append_rows_step k32 (w0 := w) w.heap.size (by rfl) (.tmp 86) (.tmp 87) 30 32 (.agg #[(.int .i64 0), (.int .i64 0), (.int .i64 0), (.slice none 0 0)]) 48 rfl Try.underlying30 info32 rfl (by decide) (by omega) v278 y277 t238 _ _ _ (fun k_ => some k_ ≠ (.slice Ao37 t245.length co37 : Value).ownBlock ∧ some k_ ≠ (.slice Ao54 t258.length co54 : Value).ownBlock ∧ some k_ ≠ (.slice Ao64 y269.length co64 : Value).ownBlock ∧ some k_ ≠ (.slice Ao65 y272.length co65 : Value).ownBlock ∧ k_ ≠ gb249 ∧ k_ ≠ gb256 ∧ k_ ≠ gb262) (fun k_ => ((fun k_ => some k_ ≠ (.slice Ao37 t245.length co37 : Value).ownBlock ∧ some k_ ≠ (.slice Ao54 t258.length co54 : Value).ownBlock ∧ some k_ ≠ (.slice Ao64 y269.length co64 : Value).ownBlock ∧ some k_ ≠ (.slice Ao65 y272.length co65 : Value).ownBlock ∧ k_ ≠ gb249 ∧ k_ ≠ gb256 ∧ k_ ≠ gb262)) k_ ∧ some k_ ≠ (v278 : Value).ownBlock) rfl rfl ?aO ?aR (fun _ hk => hk) ?aF ?aB ?aS ?aL ?_
                 (case aR => exact (by skip; exact Kd.N_F (Kd.N_mono (ok' := (fun k_ => ((fun k_ => some k_ ≠ (.slice Ao37 t245.length co37 : Value).ownBlock ∧ some k_ ≠ (.slice Ao54 t258.length co54 : Value).ownBlock ∧ some k_ ≠ (.slice Ao64 y269.length co64 : Value).ownBlock ∧ some k_ ≠ (.slice Ao65 y272.length co65 : Value).ownBlock ∧ k_ ≠ gb249 ∧ k_ ≠ gb256 ∧ k_ ≠ gb262)) k_ ∧ some k_ ≠ (v278 : Value).ownBlock)) (HO_9.out) (fun k_ hk => ⟨⟨hk.1.1.1, ⟨hk.1.1.2.1, ⟨hk.1.1.2.2.1, ⟨hk.1.2, ⟨hk.1.1.2.2.2.1, ⟨hk.1.1.2.2.2.2.1, hk.1.1.2.2.2.2.2⟩⟩⟩⟩⟩⟩, hk.2⟩))))
                 (case aB => exact (by repeat (first | (with_reducible first | exact HB.out | apply below_alloc | apply pw_below_drewN | apply below_drew1 | refine below_set ?_ GE249.out | refine below_set ?_ GE256.out | refine below_set ?_ GE262.out) | exact HB.out)))
                 (case aF => exact (fun k_ hk => ⟨Kd.fresh' (Kd.R_lt (by (with_reducible repeat (first | apply Kd.R_alloc | apply Kd.R_drewN | apply Kd.R_drew)); exact HO247.out)) k_ hk, Kd.fresh' (Kd.R_lt (by (with_reducible repeat (first | apply Kd.R_alloc | apply Kd.R_drewN | apply Kd.R_drew)); exact HO260.out)) k_ hk, Kd.fresh' (Kd.N_lt (by (with_reducible repeat (first | apply Kd.N_alloc | apply Kd.N_drewN | apply Kd.N_drew)); exact HO271.out)) k_ hk, Kd.fresh' (Kd.N_lt (by (with_reducible repeat (first | apply Kd.N_alloc | apply Kd.N_drewN | apply Kd.N_drew)); exact HO274.out)) k_ hk, Kd.freshB (g := gb249) (o := .cells #[.int .i64 t244, .slice Ao37 t245.length co37] 26 (0, 0)) (by (with_reducible repeat (first | refine blk_drewN ?_ _ | refine blk_drew ?_ | refine blk_alloc ?_ _)); exact BK249.out) k_ hk, Kd.freshB (g := gb256) (o := .cells #[.int .i64 t251, .slice Ao45 t252.length co45] 26 (0, 0)) (by (with_reducible repeat (first | refine blk_drewN ?_ _ | refine blk_drew ?_ | refine blk_alloc ?_ _)); exact BK256.out) k_ hk, Kd.freshB (g := gb262) (o := .cells #[.int .i64 t257, .slice Ao54 t258.length co54] 26 (0, 0)) (by (with_reducible repeat (first | refine blk_drewN ?_ _ | refine blk_drew ?_ | refine blk_alloc ?_ _)); exact BK262.out) k_ hk⟩))
                 (case aO => exact (by (with_reducible repeat (first | apply Kd.N_alloc | apply Kd.N_drewN | apply Kd.N_drew)); exact Kd.N_mono HO279.out (fun _ hk => ⟨hk.2.1, ⟨hk.2.2.1, ⟨hk.2.2.2.1, ⟨hk.2.2.2.2.1, ⟨hk.2.2.2.2.2.1, ⟨hk.2.2.2.2.2.2.1, hk.2.2.2.2.2.2.2⟩⟩⟩⟩⟩⟩)))
                 (case aS => exact (below_size (by repeat (first | (with_reducible first | exact HB.out | apply below_alloc | apply pw_below_drewN | apply below_drew1 | refine below_set ?_ GE249.out | refine below_set ?_ GE256.out | refine below_set ?_ GE262.out) | exact HB.out))))
                 (case aL => have := LMc22.out; omega)
                 intro v281 w70 ho hb hg hat
                 rw [← Ny280.out] at ho
                 have n0_ := Aside0.mk (Kd.N_afterv (ok := (fun k_ => some k_ ≠ (.slice Ao37 t245.length co37 : Value).ownBlock ∧ some k_ ≠ (.slice Ao54 t258.length co54 : Value).ownBlock ∧ some k_ ≠ (.slice Ao64 y269.length co64 : Value).ownBlock ∧ some k_ ≠ (.slice Ao65 y272.length co65 : Value).ownBlock ∧ k_ ≠ gb249 ∧ k_ ≠ gb256 ∧ k_ ≠ gb262)) (by (with_reducible repeat (first | apply Kd.N_alloc | apply Kd.N_drewN | apply Kd.N_drew)); exact Kd.N_mono HO_9.out (fun _ hk => ⟨⟨hk.1.1.1, ⟨hk.1.1.2.1, ⟨hk.1.1.2.2.1, ⟨hk.1.2, ⟨hk.1.1.2.2.2.1, ⟨hk.1.1.2.2.2.2.1, hk.1.1.2.2.2.2.2⟩⟩⟩⟩⟩⟩, hk.2⟩)) hg hat)
                 have n1_ := Aside0.mk (Kd.R_over' (by (with_reducible repeat (first | apply Kd.R_alloc | apply Kd.R_drewN | apply Kd.R_drew)); exact HO247.out) (Kd.N_typed (by (with_reducible repeat (first | apply Kd.N_alloc | apply Kd.N_drewN | apply Kd.N_drew)); exact HO279.out)) (by decide) hg)
                 have n2_ := Aside0.mk (blk_grown (g := gb249) (o := .cells #[.int .i64 t244, .slice Ao37 t245.length co37] 26 (0, 0)) (by (with_reducible repeat (first | refine blk_drewN ?_ _ | refine blk_drew ?_ | refine blk_alloc ?_ _)); exact BK249.out) hg (Kd.N_ne HO279.out BK249.out (by decide)))
                 have n3_ := Aside0.mk (blk_grown (g := gb256) (o := .cells #[.int .i64 t251, .slice Ao45 t252.length co45] 26 (0, 0)) (by (with_reducible repeat (first | refine blk_drewN ?_ _ | refine blk_drew ?_ | refine blk_alloc ?_ _)); exact BK256.out) hg (Kd.N_ne HO279.out BK256.out (by decide)))
                 have n4_ := Aside0.mk (Kd.R_over' (by (with_reducible repeat (first | apply Kd.R_alloc | apply Kd.R_drewN | apply Kd.R_drew)); exact HO260.out) (Kd.N_typed (by (with_reducible repeat (first | apply Kd.N_alloc | apply Kd.N_drewN | apply Kd.N_drew)); exact HO279.out)) (by decide) hg)
                 have n5_ := Aside0.mk (blk_grown (g := gb262) (o := .cells #[.int .i64 t257, .slice Ao54 t258.length co54] 26 (0, 0)) (by (with_reducible repeat (first | refine blk_drewN ?_ _ | refine blk_drew ?_ | refine blk_alloc ?_ _)); exact BK262.out) hg (Kd.N_ne HO279.out BK262.out (by decide)))
                 have n6_ := Aside0.mk (Kd.N_afterv (ok := (fun k_ => some k_ ≠ (.slice Ao32 t238.length co32 : Value).ownBlock ∧ some k_ ≠ (.slice Ao37 t245.length co37 : Value).ownBlock ∧ some k_ ≠ (.slice Ao54 t258.length co54 : Value).ownBlock ∧ some k_ ≠ (.slice Ao65 y272.length co65 : Value).ownBlock ∧ k_ ≠ gb249 ∧ k_ ≠ gb256 ∧ k_ ≠ gb262)) (by (with_reducible repeat (first | apply Kd.N_alloc | apply Kd.N_drewN | apply Kd.N_drew)); exact Kd.N_mono HO271.out (fun _ hk => ⟨⟨hk.1.1.1, ⟨hk.1.1.2.1, ⟨hk.1.1.2.2.1, ⟨hk.1.2, ⟨hk.1.1.2.2.2.1, ⟨hk.1.1.2.2.2.2.1, hk.1.1.2.2.2.2.2⟩⟩⟩⟩⟩⟩, hk.2⟩)) hg hat)
                 have n7_ := Aside0.mk (Kd.N_afterv (ok := (fun k_ => some k_ ≠ (.slice Ao37 t245.length co37 : Value).ownBlock ∧ some k_ ≠ (.slice Ao54 t258.length co54 : Value).ownBlock ∧ k_ ≠ gb249 ∧ k_ ≠ gb256 ∧ k_ ≠ gb262)) (by (with_reducible repeat (first | apply Kd.N_alloc | apply Kd.N_drewN | apply Kd.N_drew)); exact HO274.out) hg hat)
                 have n8_ := Aside0.mk (hb)
                 have n9_ := Aside0.mk (ho)
                 clear HO_9
                 clear HO247
                 clear BK249
                 clear BK256
                 clear HO260
                 clear BK262
                 clear HO271
                 clear HO274
                 clear HB
                 clear HO279
                 have HO_9 := n0_
                 have HO247 := n1_
                 have BK249 := n2_
                 have BK256 := n3_
                 have HO260 := n4_
                 have BK262 := n5_
                 have HO271 := n6_
                 have HO274 := n7_
                 have HB := n8_
                 have HO282 := n9_
                 clear n0_ n1_ n2_ n3_ n4_ n5_ n6_ n7_ n8_ n9_
                 clear ho hb hg hat
                 refine hK.out _ _ ⟨(blk_cell BK262.out 0).trans rfl, (blk_cell BK262.out 1).trans rfl⟩ (fun hHeld => ?_)
                 clear hK K
                 refine norm_ (a' := ?_) ?_ ?_
                 rotate_left
                 ·show Act.put _ (some 88) _ = _
                  simp only [Act.put, List.setIfInBounds_toArray, List.set_cons_zero, List.set_cons_succ, i64_w, i32_w]
                  rfl
                 refine one_ (i := 8) (N := some 94) #[true, true, true, true, true, true, true, true, true, false, true, true, true, false, false, false, false, false, false] rfl rfl (one_of HT_.out (by kernel_rfl)) (by decide) (fun K hK => ?_)
                 refine Kd.N_lit_step k32 _ 32 ?hg (N' := 94) ?hd (xs := ([(⟨wrap64 ((t238.length : Int) + 1), (t238.length : Int), (⟨t257, t258⟩ : S26)⟩ : S32)] : List (S32))) (inner := [.int .i64 (wrap64 ((t238.length : Int) + 1)), .int .i64 (t238.length : Int), .int .i64 t257, .slice Ao54 t258.length co54]) (ok := (fun k_ => some k_ ≠ (.slice Ao32 t238.length co32 : Value).ownBlock ∧ some k_ ≠ (.slice Ao37 t245.length co37 : Value).ownBlock ∧ some k_ ≠ (.slice Ao64 y269.length co64 : Value).ownBlock ∧ some k_ ≠ (.slice Ao65 y272.length co65 : Value).ownBlock ∧ some k_ ≠ (v281 : Value).ownBlock ∧ k_ ≠ gb249 ∧ k_ ≠ gb256 ∧ k_ ≠ gb262)) (okp := (fun k_ => some k_ ≠ (.slice Ao32 t238.length co32 : Value).ownBlock ∧ some k_ ≠ (.slice Ao37 t245.length co37 : Value).ownBlock ∧ some k_ ≠ (.slice Ao64 y269.length co64 : Value).ownBlock ∧ some k_ ≠ (.slice Ao65 y272.length co65 : Value).ownBlock ∧ some k_ ≠ (v281 : Value).ownBlock ∧ k_ ≠ gb249 ∧ k_ ≠ gb256 ∧ k_ ≠ gb262)) ?hr ?hp (fun _ hk => hk) ((show ∀ k_, w70.heap.size ≤ k_ → (fun k_ => some k_ ≠ (.slice Ao32 t238.length co32 : Value).ownBlock ∧ some k_ ≠ (.slice Ao37 t245.length co37 : Value).ownBlock ∧ some k_ ≠ (.slice Ao64 y269.length co64 : Value).ownBlock ∧ some k_ ≠ (.slice Ao65 y272.length co65 : Value).ownBlock ∧ some k_ ≠ (v281 : Value).ownBlock ∧ k_ ≠ gb249 ∧ k_ ≠ gb256 ∧ k_ ≠ gb262) k_ from fun k_ hk => ⟨Kd.fresh' (Kd.N_lt (by (with_reducible repeat (first | apply Kd.N_alloc | apply Kd.N_drewN | apply Kd.N_drew)); exact HO_9.out)) k_ hk, Kd.fresh' (Kd.R_lt (by (with_reducible repeat (first | apply Kd.R_alloc | apply Kd.R_drewN | apply Kd.R_drew)); exact HO247.out)) k_ hk, Kd.fresh' (Kd.N_lt (by (with_reducible repeat (first | apply Kd.N_alloc | apply Kd.N_drewN | apply Kd.N_drew)); exact HO271.out)) k_ hk, Kd.fresh' (Kd.N_lt (by (with_reducible repeat (first | apply Kd.N_alloc | apply Kd.N_drewN | apply Kd.N_drew)); exact HO274.out)) k_ hk, Kd.fresh' (Kd.N_lt (by (with_reducible repeat (first | apply Kd.N_alloc | apply Kd.N_drewN | apply Kd.N_drew)); exact HO282.out)) k_ hk, Kd.freshB (g := gb249) (o := .cells #[.int .i64 t244, .slice Ao37 t245.length co37] 26 (0, 0)) (by (with_reducible repeat (first | refine blk_drewN ?_ _ | refine blk_drew ?_ | refine blk_alloc ?_ _)); exact BK249.out) k_ hk, Kd.freshB (g := gb256) (o := .cells #[.int .i64 t251, .slice Ao45 t252.length co45] 26 (0, 0)) (by (with_reducible repeat (first | refine blk_drewN ?_ _ | refine blk_drew ?_ | refine blk_alloc ?_ _)); exact BK256.out) k_ hk, Kd.freshB (g := gb262) (o := .cells #[.int .i64 t257, .slice Ao54 t258.length co54] 26 (0, 0)) (by (with_reducible repeat (first | refine blk_drewN ?_ _ | refine blk_drew ?_ | refine blk_alloc ?_ _)); exact BK262.out) k_ hk⟩) _ (Nat.le_refl _)) (Below.refl _ _) (Nat.le_refl _) (by simp) ?_; (case hd => rfl); (case hg => rfl); (case hr => first | (go_simp; done) | (go_simp; rfl)); (case hp => exact (Reps.c4 (show Kd.FK k32 _ _ (⟨wrap64 ((t238.length : Int) + 1), (t238.length : Int), (⟨t257, t258⟩ : S26)⟩ : S32) [.int .i64 (wrap64 ((t238.length : Int) + 1)), .int .i64 (t238.length : Int), .int .i64 t257, .slice Ao54 t258.length co54] from (k32_mkF _ _ (⟨wrap64 ((t238.length : Int) + 1), (t238.length : Int), (⟨t257, t258⟩ : S26)⟩ : S32) (Kd.R_reads' (Kd.R_mono (ok' := (fun k_ => some k_ ≠ (.slice Ao32 t238.length co32 : Value).ownBlock ∧ some k_ ≠ (.slice Ao37 t245.length co37 : Value).ownBlock ∧ some k_ ≠ (.slice Ao64 y269.length co64 : Value).ownBlock ∧ some k_ ≠ (.slice Ao65 y272.length co65 : Value).ownBlock ∧ some k_ ≠ (v281 : Value).ownBlock ∧ k_ ≠ gb249 ∧ k_ ≠ gb256 ∧ k_ ≠ gb262)) (Kd.R_types (Kd.R_types (Kd.R_types (Kd.R_apart' (Kd.R_apart' (Kd.R_apart' (Kd.R_apart' (HO260.out) (Kd.N_typed HO_9.out) (by decide)) (Kd.N_typed HO271.out) (by decide)) (Kd.N_typed HO274.out) (by decide)) (Kd.N_typed HO282.out) (by decide)) BK249.out (by decide)) BK256.out (by decide)) BK262.out (by decide)) (fun k_ hk => ⟨hk.1.1.1.1.1.1.2, ⟨hk.1.1.1.1.1.1.1, ⟨hk.1.1.1.1.1.2, ⟨hk.1.1.1.1.2, ⟨hk.1.1.1.2, ⟨hk.1.1.2, ⟨hk.1.2, hk.2⟩⟩⟩⟩⟩⟩⟩))).2.1 (Kd.R_F (Kd.R_mono (ok' := (fun k_ => some k_ ≠ (.slice Ao32 t238.length co32 : Value).ownBlock ∧ some k_ ≠ (.slice Ao37 t245.length co37 : Value).ownBlock ∧ some k_ ≠ (.slice Ao64 y269.length co64 : Value).ownBlock ∧ some k_ ≠ (.slice Ao65 y272.length co65 : Value).ownBlock ∧ some k_ ≠ (v281 : Value).ownBlock ∧ k_ ≠ gb249 ∧ k_ ≠ gb256 ∧ k_ ≠ gb262)) (Kd.R_types (Kd.R_types (Kd.R_types (Kd.R_apart' (Kd.R_apart' (Kd.R_apart' (Kd.R_apart' (HO260.out) (Kd.N_typed HO_9.out) (by decide)) (Kd.N_typed HO271.out) (by decide)) (Kd.N_typed HO274.out) (by decide)) (Kd.N_typed HO282.out) (by decide)) BK249.out (by decide)) BK256.out (by decide)) BK262.out (by decide)) (fun k_ hk => ⟨hk.1.1.1.1.1.1.2, ⟨hk.1.1.1.1.1.1.1, ⟨hk.1.1.1.1.1.2, ⟨hk.1.1.1.1.2, ⟨hk.1.1.1.2, ⟨hk.1.1.2, ⟨hk.1.2, hk.2⟩⟩⟩⟩⟩⟩⟩))))) (Reps.none _ _)))
                 intro v284 w71 ho72 hb hg_ hnew_
                 clear hg_ hnew_
                 (first | rw [← Ny283.out] at ho72 | (simp only [Int.reduceToNat] at ho72; rw [← Ny283.out] at ho72))
                 have n0_ := Aside0.mk (Kd.N_elder' (by (with_reducible repeat (first | apply Kd.N_alloc | apply Kd.N_drewN | apply Kd.N_drew)); exact HO_9.out) (Kd.N_base ho72) hb)
                 have n1_ := Aside0.mk (Kd.R_below (by (with_reducible repeat (first | apply Kd.R_alloc | apply Kd.R_drewN | apply Kd.R_drew)); exact HO247.out) hb)
                 have n2_ := Aside0.mk (Kd.N_elder' (by (with_reducible repeat (first | apply Kd.N_alloc | apply Kd.N_drewN | apply Kd.N_drew)); exact HO271.out) (Kd.N_base ho72) hb)
                 have n3_ := Aside0.mk (Kd.N_elder' (by (with_reducible repeat (first | apply Kd.N_alloc | apply Kd.N_drewN | apply Kd.N_drew)); exact HO274.out) (Kd.N_base ho72) hb)
                 have n4_ := Aside0.mk (Kd.N_elder' (by (with_reducible repeat (first | apply Kd.N_alloc | apply Kd.N_drewN | apply Kd.N_drew)); exact HO282.out) (Kd.N_base ho72) hb)
                 have n5_ := Aside0.mk (Kd.N_lower ho72 (below_size (by repeat (first | (with_reducible first | exact HB.out | apply below_alloc | apply pw_below_drewN | apply below_drew1 | refine below_set ?_ GE249.out | refine below_set ?_ GE256.out | refine below_set ?_ GE262.out) | exact HB.out))))
                 have n6_ := Aside0.mk (blk_below (g := gb249) (o := .cells #[.int .i64 t244, .slice Ao37 t245.length co37] 26 (0, 0)) (by (with_reducible repeat (first | refine blk_drewN ?_ _ | refine blk_drew ?_ | refine blk_alloc ?_ _)); exact BK249.out) hb)
                 have n7_ := Aside0.mk (blk_below (g := gb256) (o := .cells #[.int .i64 t251, .slice Ao45 t252.length co45] 26 (0, 0)) (by (with_reducible repeat (first | refine blk_drewN ?_ _ | refine blk_drew ?_ | refine blk_alloc ?_ _)); exact BK256.out) hb)
                 have n8_ := Aside0.mk (blk_below (g := gb262) (o := .cells #[.int .i64 t257, .slice Ao54 t258.length co54] 26 (0, 0)) (by (with_reducible repeat (first | refine blk_drewN ?_ _ | refine blk_drew ?_ | refine blk_alloc ?_ _)); exact BK262.out) hb)
                 have n9_ := Aside0.mk (below_step (by repeat (first | (with_reducible first | exact HB.out | apply below_alloc | apply pw_below_drewN | apply below_drew1 | refine below_set ?_ GE249.out | refine below_set ?_ GE256.out | refine below_set ?_ GE262.out) | exact HB.out)) hb)
                 clear HO_9
                 clear HO247
                 clear HO271
                 clear HO274
                 clear HO282
                 clear BK249
                 clear BK256
                 clear BK262
                 clear HB
                 clear HO260
                 have HO_9 := n0_
                 have HO247 := n1_
                 have HO271 := n2_
                 have HO274 := n3_
                 have HO282 := n4_
                 have HO285 := n5_
                 have BK249 := n6_
                 have BK256 := n7_
                 have BK262 := n8_
                 have HB := n9_
                 clear n0_ n1_ n2_ n3_ n4_ n5_ n6_ n7_ n8_ n9_
                 clear hb ho72
                 refine hK.out _ _ ⟨(blk_cell BK262.out 0).trans rfl, (blk_cell BK262.out 1).trans rfl⟩ (fun hHeld => ?_)
                 clear hK K
                 refine norm_ (a' := ?_) ?_ ?_
                 rotate_left
                 ·show Act.put _ (some 94) _ = _
                  simp only [Act.put, List.setIfInBounds_toArray, List.set_cons_zero, List.set_cons_succ, i64_w, i32_w]
                  rfl
                 exact norm_ (by simp only [putAll, Act.put, List.setIfInBounds_toArray, List.set_cons_zero, List.set_cons_succ]) (hCont (v278, v281, v284) _ ⟨hHeld, (by (with_reducible repeat (first | apply Kd.R_alloc | apply Kd.R_drewN | apply Kd.R_drew)); exact Kd.R_mono HO247.out (fun _ hk => trivial)), (by (with_reducible repeat (first | apply Kd.N_alloc | apply Kd.N_drewN | apply Kd.N_drew)); exact Kd.N_mono HO271.out (fun _ hk => ⟨hk.1.1.2.1, ⟨hk.1.1.2.2.2.1, ⟨hk.1.2, ⟨hk.2, ⟨hk.1.1.1, ⟨hk.1.1.2.2.2.2.1, ⟨hk.1.1.2.2.2.2.2.1, hk.1.1.2.2.2.2.2.2⟩⟩⟩⟩⟩⟩⟩)), (by (with_reducible repeat (first | apply Kd.N_alloc | apply Kd.N_drewN | apply Kd.N_drew)); exact Kd.N_mono HO274.out (fun _ hk => ⟨hk.1.1.1, ⟨hk.1.2, ⟨hk.2, ⟨hk.1.1.2.2.1, ⟨hk.1.1.2.2.2.1, hk.1.1.2.2.2.2⟩⟩⟩⟩⟩)), (by (with_reducible repeat (first | apply Kd.N_alloc | apply Kd.N_drewN | apply Kd.N_drew)); exact Kd.N_mono HO282.out (fun _ hk => ⟨hk.1.1, ⟨hk.1.2.2.1, ⟨hk.1.2.2.2.1, ⟨hk.2, ⟨hk.1.2.2.2.2.1, ⟨hk.1.2.2.2.2.2.1, hk.1.2.2.2.2.2.2⟩⟩⟩⟩⟩⟩)), (by (with_reducible repeat (first | apply Kd.N_alloc | apply Kd.N_drewN | apply Kd.N_drew)); exact Kd.N_mono HO285.out (fun _ hk => ⟨hk.2.1, ⟨hk.2.2.1, ⟨hk.2.2.2.1, ⟨hk.2.2.2.2.1, ⟨hk.1, ⟨hk.2.2.2.2.2.1, ⟨hk.2.2.2.2.2.2.1, hk.2.2.2.2.2.2.2⟩⟩⟩⟩⟩⟩⟩)), (by (with_reducible repeat (first | apply Kd.N_alloc | apply Kd.N_drewN | apply Kd.N_drew)); exact Kd.N_mono HO_9.out (fun _ hk => ⟨hk.1.1.1, ⟨hk.1.1.2.2.1, ⟨hk.1.1.2.2.2.1, ⟨hk.1.2, ⟨hk.2, ⟨hk.1.1.2.2.2.2.1, ⟨hk.1.1.2.2.2.2.2.1, hk.1.1.2.2.2.2.2.2⟩⟩⟩⟩⟩⟩⟩)), (by (with_reducible repeat (first | refine blk_drewN ?_ _ | refine blk_drew ?_ | refine blk_alloc ?_ _)); exact BK249.out), (by (with_reducible repeat (first | refine blk_drewN ?_ _ | refine blk_drew ?_ | refine blk_alloc ?_ _)); exact BK256.out), (by (with_reducible repeat (first | refine blk_drewN ?_ _ | refine blk_drew ?_ | refine blk_alloc ?_ _)); exact BK262.out), (by repeat (first | (with_reducible first | exact HB.out | apply below_alloc | apply pw_below_drewN | apply below_drew1 | refine below_set ?_ GE249.out | refine below_set ?_ GE256.out | refine below_set ?_ GE262.out) | exact HB.out))⟩)
                ·skip
                 refine Kd.N_lit_step k32 _ 32 ?hg (N' := 94) ?hd (xs := ([(⟨wrap64 ((t238.length : Int) + 1), (t238.length : Int), (⟨t257, t258⟩ : S26)⟩ : S32)] : List (S32))) (inner := [.int .i64 (wrap64 ((t238.length : Int) + 1)), .int .i64 (t238.length : Int), .int .i64 t257, .slice Ao54 t258.length co54]) (ok := (fun k_ => some k_ ≠ (.slice Ao32 t238.length co32 : Value).ownBlock ∧ some k_ ≠ (.slice Ao37 t245.length co37 : Value).ownBlock ∧ some k_ ≠ (.slice Ao64 y269.length co64 : Value).ownBlock ∧ some k_ ≠ (.slice Ao65 y272.length co65 : Value).ownBlock ∧ some k_ ≠ (v278 : Value).ownBlock ∧ k_ ≠ gb249 ∧ k_ ≠ gb256 ∧ k_ ≠ gb262)) (okp := (fun k_ => some k_ ≠ (.slice Ao32 t238.length co32 : Value).ownBlock ∧ some k_ ≠ (.slice Ao37 t245.length co37 : Value).ownBlock ∧ some k_ ≠ (.slice Ao64 y269.length co64 : Value).ownBlock ∧ some k_ ≠ (.slice Ao65 y272.length co65 : Value).ownBlock ∧ some k_ ≠ (v278 : Value).ownBlock ∧ k_ ≠ gb249 ∧ k_ ≠ gb256 ∧ k_ ≠ gb262)) ?hr ?hp (fun _ hk => hk) ((show ∀ k_, w68.heap.size ≤ k_ → (fun k_ => some k_ ≠ (.slice Ao32 t238.length co32 : Value).ownBlock ∧ some k_ ≠ (.slice Ao37 t245.length co37 : Value).ownBlock ∧ some k_ ≠ (.slice Ao64 y269.length co64 : Value).ownBlock ∧ some k_ ≠ (.slice Ao65 y272.length co65 : Value).ownBlock ∧ some k_ ≠ (v278 : Value).ownBlock ∧ k_ ≠ gb249 ∧ k_ ≠ gb256 ∧ k_ ≠ gb262) k_ from fun k_ hk => ⟨Kd.fresh' (Kd.N_lt (by (with_reducible repeat (first | apply Kd.N_alloc | apply Kd.N_drewN | apply Kd.N_drew)); exact HO_9.out)) k_ hk, Kd.fresh' (Kd.R_lt (by (with_reducible repeat (first | apply Kd.R_alloc | apply Kd.R_drewN | apply Kd.R_drew)); exact HO247.out)) k_ hk, Kd.fresh' (Kd.N_lt (by (with_reducible repeat (first | apply Kd.N_alloc | apply Kd.N_drewN | apply Kd.N_drew)); exact HO271.out)) k_ hk, Kd.fresh' (Kd.N_lt (by (with_reducible repeat (first | apply Kd.N_alloc | apply Kd.N_drewN | apply Kd.N_drew)); exact HO274.out)) k_ hk, Kd.fresh' (Kd.N_lt (by (with_reducible repeat (first | apply Kd.N_alloc | apply Kd.N_drewN | apply Kd.N_drew)); exact HO279.out)) k_ hk, Kd.freshB (g := gb249) (o := .cells #[.int .i64 t244, .slice Ao37 t245.length co37] 26 (0, 0)) (by (with_reducible repeat (first | refine blk_drewN ?_ _ | refine blk_drew ?_ | refine blk_alloc ?_ _)); exact BK249.out) k_ hk, Kd.freshB (g := gb256) (o := .cells #[.int .i64 t251, .slice Ao45 t252.length co45] 26 (0, 0)) (by (with_reducible repeat (first | refine blk_drewN ?_ _ | refine blk_drew ?_ | refine blk_alloc ?_ _)); exact BK256.out) k_ hk, Kd.freshB (g := gb262) (o := .cells #[.int .i64 t257, .slice Ao54 t258.length co54] 26 (0, 0)) (by (with_reducible repeat (first | refine blk_drewN ?_ _ | refine blk_drew ?_ | refine blk_alloc ?_ _)); exact BK262.out) k_ hk⟩) _ (Nat.le_refl _)) (Below.refl _ _) (Nat.le_refl _) (by simp) ?_; (case hd => rfl); (case hg => rfl); (case hr => first | (go_simp; done) | (go_simp; rfl)); (case hp => exact (Reps.c4 (show Kd.FK k32 _ _ (⟨wrap64 ((t238.length : Int) + 1), (t238.length : Int), (⟨t257, t258⟩ : S26)⟩ : S32) [.int .i64 (wrap64 ((t238.length : Int) + 1)), .int .i64 (t238.length : Int), .int .i64 t257, .slice Ao54 t258.length co54] from (k32_mkF _ _ (⟨wrap64 ((t238.length : Int) + 1), (t238.length : Int), (⟨t257, t258⟩ : S26)⟩ : S32) (Kd.R_reads' (Kd.R_mono (ok' := (fun k_ => some k_ ≠ (.slice Ao32 t238.length co32 : Value).ownBlock ∧ some k_ ≠ (.slice Ao37 t245.length co37 : Value).ownBlock ∧ some k_ ≠ (.slice Ao64 y269.length co64 : Value).ownBlock ∧ some k_ ≠ (.slice Ao65 y272.length co65 : Value).ownBlock ∧ some k_ ≠ (v278 : Value).ownBlock ∧ k_ ≠ gb249 ∧ k_ ≠ gb256 ∧ k_ ≠ gb262)) (Kd.R_types (Kd.R_types (Kd.R_types (Kd.R_apart' (Kd.R_apart' (Kd.R_apart' (Kd.R_apart' (HO260.out) (Kd.N_typed HO_9.out) (by decide)) (Kd.N_typed HO271.out) (by decide)) (Kd.N_typed HO274.out) (by decide)) (Kd.N_typed HO279.out) (by decide)) BK249.out (by decide)) BK256.out (by decide)) BK262.out (by decide)) (fun k_ hk => ⟨hk.1.1.1.1.1.1.2, ⟨hk.1.1.1.1.1.1.1, ⟨hk.1.1.1.1.1.2, ⟨hk.1.1.1.1.2, ⟨hk.1.1.1.2, ⟨hk.1.1.2, ⟨hk.1.2, hk.2⟩⟩⟩⟩⟩⟩⟩))).2.1 (Kd.R_F (Kd.R_mono (ok' := (fun k_ => some k_ ≠ (.slice Ao32 t238.length co32 : Value).ownBlock ∧ some k_ ≠ (.slice Ao37 t245.length co37 : Value).ownBlock ∧ some k_ ≠ (.slice Ao64 y269.length co64 : Value).ownBlock ∧ some k_ ≠ (.slice Ao65 y272.length co65 : Value).ownBlock ∧ some k_ ≠ (v278 : Value).ownBlock ∧ k_ ≠ gb249 ∧ k_ ≠ gb256 ∧ k_ ≠ gb262)) (Kd.R_types (Kd.R_types (Kd.R_types (Kd.R_apart' (Kd.R_apart' (Kd.R_apart' (Kd.R_apart' (HO260.out) (Kd.N_typed HO_9.out) (by decide)) (Kd.N_typed HO271.out) (by decide)) (Kd.N_typed HO274.out) (by decide)) (Kd.N_typed HO279.out) (by decide)) BK249.out (by decide)) BK256.out (by decide)) BK262.out (by decide)) (fun k_ hk => ⟨hk.1.1.1.1.1.1.2, ⟨hk.1.1.1.1.1.1.1, ⟨hk.1.1.1.1.1.2, ⟨hk.1.1.1.1.2, ⟨hk.1.1.1.2, ⟨hk.1.1.2, ⟨hk.1.2, hk.2⟩⟩⟩⟩⟩⟩⟩))))) (Reps.none _ _)))
                 intro v284 w70 ho71 hb hg_ hnew_
                 clear hg_ hnew_
                 (first | rw [← Ny283.out] at ho71 | (simp only [Int.reduceToNat] at ho71; rw [← Ny283.out] at ho71))
                 have n0_ := Aside0.mk (Kd.N_elder' (by (with_reducible repeat (first | apply Kd.N_alloc | apply Kd.N_drewN | apply Kd.N_drew)); exact HO_9.out) (Kd.N_base ho71) hb)
                 have n1_ := Aside0.mk (Kd.R_below (by (with_reducible repeat (first | apply Kd.R_alloc | apply Kd.R_drewN | apply Kd.R_drew)); exact HO247.out) hb)
                 have n2_ := Aside0.mk (Kd.N_elder' (by (with_reducible repeat (first | apply Kd.N_alloc | apply Kd.N_drewN | apply Kd.N_drew)); exact HO271.out) (Kd.N_base ho71) hb)
                 have n3_ := Aside0.mk (Kd.N_elder' (by (with_reducible repeat (first | apply Kd.N_alloc | apply Kd.N_drewN | apply Kd.N_drew)); exact HO274.out) (Kd.N_base ho71) hb)
                 have n4_ := Aside0.mk (Kd.N_elder' (by (with_reducible repeat (first | apply Kd.N_alloc | apply Kd.N_drewN | apply Kd.N_drew)); exact HO279.out) (Kd.N_base ho71) hb)
                 have n5_ := Aside0.mk (Kd.N_lower ho71 (below_size (by repeat (first | (with_reducible first | exact HB.out | apply below_alloc | apply pw_below_drewN | apply below_drew1 | refine below_set ?_ GE249.out | refine below_set ?_ GE256.out | refine below_set ?_ GE262.out) | exact HB.out))))
                 have n6_ := Aside0.mk (blk_below (g := gb249) (o := .cells #[.int .i64 t244, .slice Ao37 t245.length co37] 26 (0, 0)) (by (with_reducible repeat (first | refine blk_drewN ?_ _ | refine blk_drew ?_ | refine blk_alloc ?_ _)); exact BK249.out) hb)
                 have n7_ := Aside0.mk (blk_below (g := gb256) (o := .cells #[.int .i64 t251, .slice Ao45 t252.length co45] 26 (0, 0)) (by (with_reducible repeat (first | refine blk_drewN ?_ _ | refine blk_drew ?_ | refine blk_alloc ?_ _)); exact BK256.out) hb)
                 have n8_ := Aside0.mk (blk_below (g := gb262) (o := .cells #[.int .i64 t257, .slice Ao54 t258.length co54] 26 (0, 0)) (by (with_reducible repeat (first | refine blk_drewN ?_ _ | refine blk_drew ?_ | refine blk_alloc ?_ _)); exact BK262.out) hb)
                 have n9_ := Aside0.mk (below_step (by repeat (first | (with_reducible first | exact HB.out | apply below_alloc | apply pw_below_drewN | apply below_drew1 | refine below_set ?_ GE249.out | refine below_set ?_ GE256.out | refine below_set ?_ GE262.out) | exact HB.out)) hb)
                 clear HO_9
                 clear HO247
                 clear HO271
                 clear HO274
                 clear HO279
                 clear BK249
                 clear BK256
                 clear BK262
                 clear HB
                 clear HO260
                 have HO_9 := n0_
                 have HO247 := n1_
                 have HO271 := n2_
                 have HO274 := n3_
                 have HO279 := n4_
                 have HO285 := n5_
                 have BK249 := n6_
                 have BK256 := n7_
                 have BK262 := n8_
                 have HB := n9_
                 clear n0_ n1_ n2_ n3_ n4_ n5_ n6_ n7_ n8_ n9_
                 clear hb ho71
                 refine hK.out _ _ ⟨(blk_cell BK262.out 0).trans rfl, (blk_cell BK262.out 1).trans rfl⟩ (fun hHeld => ?_)
                 clear hK K
                 refine norm_ (a' := ?_) ?_ ?_
                 rotate_left
                 ·show Act.put _ (some 94) _ = _
                  simp only [Act.put, List.setIfInBounds_toArray, List.set_cons_zero, List.set_cons_succ, i64_w, i32_w]
                  rfl
                 refine one_ (i := 2) (N := some 88) #[true, true, true, true, true, true, true, true, true, false, true, true, true, false, false, false, false, false, false] rfl rfl (one_of HT_.out (by kernel_rfl)) (by decide) (fun K hK => ?_)
                 refine Kd.N_append_rows_step k32 (w0 := w) w.heap.size (by rfl) (.tmp 86) (.tmp 87) 30 32 (.agg #[(.int .i64 0), (.int .i64 0), (.int .i64 0), (.slice none 0 0)]) 48 rfl Try.underlying30 info32 rfl (by decide) (by omega) v278 y277 t238 _ _ _ (fun k_ => some k_ ≠ (.slice Ao37 t245.length co37 : Value).ownBlock ∧ some k_ ≠ (.slice Ao64 y269.length co64 : Value).ownBlock ∧ some k_ ≠ (.slice Ao65 y272.length co65 : Value).ownBlock ∧ some k_ ≠ (v284 : Value).ownBlock ∧ k_ ≠ gb249 ∧ k_ ≠ gb256 ∧ k_ ≠ gb262) (fun k_ => ((fun k_ => some k_ ≠ (.slice Ao37 t245.length co37 : Value).ownBlock ∧ some k_ ≠ (.slice Ao64 y269.length co64 : Value).ownBlock ∧ some k_ ≠ (.slice Ao65 y272.length co65 : Value).ownBlock ∧ some k_ ≠ (v284 : Value).ownBlock ∧ k_ ≠ gb249 ∧ k_ ≠ gb256 ∧ k_ ≠ gb262)) k_ ∧ some k_ ≠ (v278 : Value).ownBlock) rfl rfl ?aO ?aR (fun _ hk => hk) ?aF ?aB ?aS ?aL ?_
                 (case aR => exact (by skip; exact Kd.N_F (Kd.N_mono (ok' := (fun k_ => ((fun k_ => some k_ ≠ (.slice Ao37 t245.length co37 : Value).ownBlock ∧ some k_ ≠ (.slice Ao64 y269.length co64 : Value).ownBlock ∧ some k_ ≠ (.slice Ao65 y272.length co65 : Value).ownBlock ∧ some k_ ≠ (v284 : Value).ownBlock ∧ k_ ≠ gb249 ∧ k_ ≠ gb256 ∧ k_ ≠ gb262)) k_ ∧ some k_ ≠ (v278 : Value).ownBlock)) (HO_9.out) (fun k_ hk => ⟨⟨hk.1.1.1.1, ⟨hk.1.1.1.2.2.1, ⟨hk.1.1.2, ⟨hk.2, ⟨hk.1.1.1.2.2.2.1, ⟨hk.1.1.1.2.2.2.2.1, hk.1.1.1.2.2.2.2.2⟩⟩⟩⟩⟩⟩, hk.1.2⟩))))
                 (case aB => exact (by repeat (first | (with_reducible first | exact HB.out | apply below_alloc | apply pw_below_drewN | apply below_drew1 | refine below_set ?_ GE249.out | refine below_set ?_ GE256.out | refine below_set ?_ GE262.out) | exact HB.out)))
                 (case aF => exact (fun k_ hk => ⟨Kd.fresh' (Kd.R_lt (by (with_reducible repeat (first | apply Kd.R_alloc | apply Kd.R_drewN | apply Kd.R_drew)); exact HO247.out)) k_ hk, Kd.fresh' (Kd.N_lt (by (with_reducible repeat (first | apply Kd.N_alloc | apply Kd.N_drewN | apply Kd.N_drew)); exact HO271.out)) k_ hk, Kd.fresh' (Kd.N_lt (by (with_reducible repeat (first | apply Kd.N_alloc | apply Kd.N_drewN | apply Kd.N_drew)); exact HO274.out)) k_ hk, Kd.fresh' (Kd.N_lt (by (with_reducible repeat (first | apply Kd.N_alloc | apply Kd.N_drewN | apply Kd.N_drew)); exact HO285.out)) k_ hk, Kd.freshB (g := gb249) (o := .cells #[.int .i64 t244, .slice Ao37 t245.length co37] 26 (0, 0)) (by (with_reducible repeat (first | refine blk_drewN ?_ _ | refine blk_drew ?_ | refine blk_alloc ?_ _)); exact BK249.out) k_ hk, Kd.freshB (g := gb256) (o := .cells #[.int .i64 t251, .slice Ao45 t252.length co45] 26 (0, 0)) (by (with_reducible repeat (first | refine blk_drewN ?_ _ | refine blk_drew ?_ | refine blk_alloc ?_ _)); exact BK256.out) k_ hk, Kd.freshB (g := gb262) (o := .cells #[.int .i64 t257, .slice Ao54 t258.length co54] 26 (0, 0)) (by (with_reducible repeat (first | refine blk_drewN ?_ _ | refine blk_drew ?_ | refine blk_alloc ?_ _)); exact BK262.out) k_ hk⟩))
                 (case aO => exact (by (with_reducible repeat (first | apply Kd.N_alloc | apply Kd.N_drewN | apply Kd.N_drew)); exact Kd.N_mono HO279.out (fun _ hk => ⟨hk.1.2.1, ⟨hk.1.2.2.2.1, ⟨hk.1.2.2.2.2.1, ⟨hk.2, ⟨hk.1.2.2.2.2.2.1, ⟨hk.1.2.2.2.2.2.2.1, hk.1.2.2.2.2.2.2.2⟩⟩⟩⟩⟩⟩)))
                 (case aS => exact (below_size (by repeat (first | (with_reducible first | exact HB.out | apply below_alloc | apply pw_below_drewN | apply below_drew1 | refine below_set ?_ GE249.out | refine below_set ?_ GE256.out | refine below_set ?_ GE262.out) | exact HB.out))))
                 (case aL => have := LMc22.out; omega)
                 intro v281 w72 ho hb hg hat
                 rw [← Ny280.out] at ho
                 have n0_ := Aside0.mk (Kd.N_afterv (ok := (fun k_ => some k_ ≠ (.slice Ao37 t245.length co37 : Value).ownBlock ∧ some k_ ≠ (.slice Ao64 y269.length co64 : Value).ownBlock ∧ some k_ ≠ (.slice Ao65 y272.length co65 : Value).ownBlock ∧ some k_ ≠ (v284 : Value).ownBlock ∧ k_ ≠ gb249 ∧ k_ ≠ gb256 ∧ k_ ≠ gb262)) (by (with_reducible repeat (first | apply Kd.N_alloc | apply Kd.N_drewN | apply Kd.N_drew)); exact Kd.N_mono HO_9.out (fun _ hk => ⟨⟨hk.1.1.1.1, ⟨hk.1.1.1.2.2.1, ⟨hk.1.1.2, ⟨hk.2, ⟨hk.1.1.1.2.2.2.1, ⟨hk.1.1.1.2.2.2.2.1, hk.1.1.1.2.2.2.2.2⟩⟩⟩⟩⟩⟩, hk.1.2⟩)) hg hat)
                 have n1_ := Aside0.mk (Kd.R_over' (by (with_reducible repeat (first | apply Kd.R_alloc | apply Kd.R_drewN | apply Kd.R_drew)); exact HO247.out) (Kd.N_typed (by (with_reducible repeat (first | apply Kd.N_alloc | apply Kd.N_drewN | apply Kd.N_drew)); exact HO279.out)) (by decide) hg)
                 have n2_ := Aside0.mk (blk_grown (g := gb249) (o := .cells #[.int .i64 t244, .slice Ao37 t245.length co37] 26 (0, 0)) (by (with_reducible repeat (first | refine blk_drewN ?_ _ | refine blk_drew ?_ | refine blk_alloc ?_ _)); exact BK249.out) hg (Kd.N_ne HO279.out BK249.out (by decide)))
                 have n3_ := Aside0.mk (blk_grown (g := gb256) (o := .cells #[.int .i64 t251, .slice Ao45 t252.length co45] 26 (0, 0)) (by (with_reducible repeat (first | refine blk_drewN ?_ _ | refine blk_drew ?_ | refine blk_alloc ?_ _)); exact BK256.out) hg (Kd.N_ne HO279.out BK256.out (by decide)))
                 have n4_ := Aside0.mk (blk_grown (g := gb262) (o := .cells #[.int .i64 t257, .slice Ao54 t258.length co54] 26 (0, 0)) (by (with_reducible repeat (first | refine blk_drewN ?_ _ | refine blk_drew ?_ | refine blk_alloc ?_ _)); exact BK262.out) hg (Kd.N_ne HO279.out BK262.out (by decide)))
                 have n5_ := Aside0.mk (Kd.N_afterv (ok := (fun k_ => some k_ ≠ (.slice Ao32 t238.length co32 : Value).ownBlock ∧ some k_ ≠ (.slice Ao37 t245.length co37 : Value).ownBlock ∧ some k_ ≠ (.slice Ao65 y272.length co65 : Value).ownBlock ∧ some k_ ≠ (v284 : Value).ownBlock ∧ k_ ≠ gb249 ∧ k_ ≠ gb256 ∧ k_ ≠ gb262)) (by (with_reducible repeat (first | apply Kd.N_alloc | apply Kd.N_drewN | apply Kd.N_drew)); exact Kd.N_mono HO271.out (fun _ hk => ⟨⟨hk.1.1.1.1, ⟨hk.1.1.1.2.1, ⟨hk.1.1.2, ⟨hk.2, ⟨hk.1.1.1.2.2.2.1, ⟨hk.1.1.1.2.2.2.2.1, hk.1.1.1.2.2.2.2.2⟩⟩⟩⟩⟩⟩, hk.1.2⟩)) hg hat)
                 have n6_ := Aside0.mk (Kd.N_afterv (ok := (fun k_ => some k_ ≠ (.slice Ao37 t245.length co37 : Value).ownBlock ∧ some k_ ≠ (v284 : Value).ownBlock ∧ k_ ≠ gb249 ∧ k_ ≠ gb256 ∧ k_ ≠ gb262)) (by (with_reducible repeat (first | apply Kd.N_alloc | apply Kd.N_drewN | apply Kd.N_drew)); exact Kd.N_mono HO274.out (fun _ hk => ⟨⟨hk.1.1.1, ⟨hk.2, ⟨hk.1.1.2.2.1, ⟨hk.1.1.2.2.2.1, hk.1.1.2.2.2.2⟩⟩⟩⟩, hk.1.2⟩)) hg hat)
                 have n7_ := Aside0.mk (Kd.N_afterv (ok := (fun k_ => some k_ ≠ (.slice Ao32 t238.length co32 : Value).ownBlock ∧ some k_ ≠ (.slice Ao37 t245.length co37 : Value).ownBlock ∧ some k_ ≠ (.slice Ao64 y269.length co64 : Value).ownBlock ∧ some k_ ≠ (.slice Ao65 y272.length co65 : Value).ownBlock ∧ k_ ≠ gb249 ∧ k_ ≠ gb256 ∧ k_ ≠ gb262)) (by (with_reducible repeat (first | apply Kd.N_alloc | apply Kd.N_drewN | apply Kd.N_drew)); exact Kd.N_mono HO285.out (fun _ hk => ⟨⟨hk.1, ⟨hk.2.1, ⟨hk.2.2.1, ⟨hk.2.2.2.1, ⟨hk.2.2.2.2.2.1, ⟨hk.2.2.2.2.2.2.1, hk.2.2.2.2.2.2.2⟩⟩⟩⟩⟩⟩, hk.2.2.2.2.1⟩)) hg hat)
                 have n8_ := Aside0.mk (hb)
                 have n9_ := Aside0.mk (ho)
                 clear HO_9
                 clear HO247
                 clear BK249
                 clear BK256
                 clear BK262
                 clear HO271
                 clear HO274
                 clear HO285
                 clear HB
                 clear HO279
                 have HO_9 := n0_
                 have HO247 := n1_
                 have BK249 := n2_
                 have BK256 := n3_
                 have BK262 := n4_
                 have HO271 := n5_
                 have HO274 := n6_
                 have HO285 := n7_
                 have HB := n8_
                 have HO282 := n9_
                 clear n0_ n1_ n2_ n3_ n4_ n5_ n6_ n7_ n8_ n9_
                 clear ho hb hg hat
                 refine hK.out _ _ ⟨(blk_cell BK262.out 0).trans rfl, (blk_cell BK262.out 1).trans rfl⟩ (fun hHeld => ?_)
                 clear hK K
                 refine norm_ (a' := ?_) ?_ ?_
                 rotate_left
                 ·show Act.put _ (some 88) _ = _
                  simp only [Act.put, List.setIfInBounds_toArray, List.set_cons_zero, List.set_cons_succ, i64_w, i32_w]
                  rfl
                 exact norm_ (by simp only [putAll, Act.put, List.setIfInBounds_toArray, List.set_cons_zero, List.set_cons_succ]) (hCont (v278, v281, v284) _ ⟨hHeld, (by (with_reducible repeat (first | apply Kd.R_alloc | apply Kd.R_drewN | apply Kd.R_drew)); exact Kd.R_mono HO247.out (fun _ hk => trivial)), (by (with_reducible repeat (first | apply Kd.N_alloc | apply Kd.N_drewN | apply Kd.N_drew)); exact Kd.N_mono HO271.out (fun _ hk => ⟨hk.1.2.1, ⟨hk.1.2.2.1, ⟨hk.2, ⟨hk.1.2.2.2.1, ⟨hk.1.1, ⟨hk.1.2.2.2.2.1, ⟨hk.1.2.2.2.2.2.1, hk.1.2.2.2.2.2.2⟩⟩⟩⟩⟩⟩⟩)), (by (with_reducible repeat (first | apply Kd.N_alloc | apply Kd.N_drewN | apply Kd.N_drew)); exact Kd.N_mono HO274.out (fun _ hk => ⟨hk.1.1, ⟨hk.2, ⟨hk.1.2.1, ⟨hk.1.2.2.1, ⟨hk.1.2.2.2.1, hk.1.2.2.2.2⟩⟩⟩⟩⟩)), (by (with_reducible repeat (first | apply Kd.N_alloc | apply Kd.N_drewN | apply Kd.N_drew)); exact HO282.out), (by (with_reducible repeat (first | apply Kd.N_alloc | apply Kd.N_drewN | apply Kd.N_drew)); exact Kd.N_mono HO285.out (fun _ hk => ⟨hk.1.2.1, ⟨hk.1.2.2.1, ⟨hk.1.2.2.2.1, ⟨hk.2, ⟨hk.1.1, ⟨hk.1.2.2.2.2.1, ⟨hk.1.2.2.2.2.2.1, hk.1.2.2.2.2.2.2⟩⟩⟩⟩⟩⟩⟩)), (by (with_reducible repeat (first | apply Kd.N_alloc | apply Kd.N_drewN | apply Kd.N_drew)); exact Kd.N_mono HO_9.out (fun _ hk => ⟨hk.1.1, ⟨hk.1.2.1, ⟨hk.1.2.2.1, ⟨hk.2, ⟨hk.1.2.2.2.1, ⟨hk.1.2.2.2.2.1, ⟨hk.1.2.2.2.2.2.1, hk.1.2.2.2.2.2.2⟩⟩⟩⟩⟩⟩⟩)), (by (with_reducible repeat (first | refine blk_drewN ?_ _ | refine blk_drew ?_ | refine blk_alloc ?_ _)); exact BK249.out), (by (with_reducible repeat (first | refine blk_drewN ?_ _ | refine blk_drew ?_ | refine blk_alloc ?_ _)); exact BK256.out), (by (with_reducible repeat (first | refine blk_drewN ?_ _ | refine blk_drew ?_ | refine blk_alloc ?_ _)); exact BK262.out), (by repeat (first | (with_reducible first | exact HB.out | apply below_alloc | apply pw_below_drewN | apply below_drew1 | refine below_set ?_ GE249.out | refine below_set ?_ GE256.out | refine below_set ?_ GE262.out) | exact HB.out))⟩)
               ·skip
                refine Kd.N_lit_step k32 _ 32 ?hg (N' := 94) ?hd (xs := ([(⟨wrap64 ((t238.length : Int) + 1), (t238.length : Int), (⟨t257, t258⟩ : S26)⟩ : S32)] : List (S32))) (inner := [.int .i64 (wrap64 ((t238.length : Int) + 1)), .int .i64 (t238.length : Int), .int .i64 t257, .slice Ao54 t258.length co54]) (ok := (fun k_ => some k_ ≠ (.slice Ao32 t238.length co32 : Value).ownBlock ∧ some k_ ≠ (.slice Ao37 t245.length co37 : Value).ownBlock ∧ some k_ ≠ (.slice Ao64 y269.length co64 : Value).ownBlock ∧ some k_ ≠ (.slice Ao65 y272.length co65 : Value).ownBlock ∧ k_ ≠ gb249 ∧ k_ ≠ gb256 ∧ k_ ≠ gb262)) (okp := (fun k_ => some k_ ≠ (.slice Ao32 t238.length co32 : Value).ownBlock ∧ some k_ ≠ (.slice Ao37 t245.length co37 : Value).ownBlock ∧ some k_ ≠ (.slice Ao64 y269.length co64 : Value).ownBlock ∧ some k_ ≠ (.slice Ao65 y272.length co65 : Value).ownBlock ∧ k_ ≠ gb249 ∧ k_ ≠ gb256 ∧ k_ ≠ gb262)) ?hr ?hp (fun _ hk => hk) ((show ∀ k_, w67.heap.size ≤ k_ → (fun k_ => some k_ ≠ (.slice Ao32 t238.length co32 : Value).ownBlock ∧ some k_ ≠ (.slice Ao37 t245.length co37 : Value).ownBlock ∧ some k_ ≠ (.slice Ao64 y269.length co64 : Value).ownBlock ∧ some k_ ≠ (.slice Ao65 y272.length co65 : Value).ownBlock ∧ k_ ≠ gb249 ∧ k_ ≠ gb256 ∧ k_ ≠ gb262) k_ from fun k_ hk => ⟨Kd.fresh' (Kd.N_lt (by (with_reducible repeat (first | apply Kd.N_alloc | apply Kd.N_drewN | apply Kd.N_drew)); exact HO_9.out)) k_ hk, Kd.fresh' (Kd.R_lt (by (with_reducible repeat (first | apply Kd.R_alloc | apply Kd.R_drewN | apply Kd.R_drew)); exact HO247.out)) k_ hk, Kd.fresh' (Kd.N_lt (by (with_reducible repeat (first | apply Kd.N_alloc | apply Kd.N_drewN | apply Kd.N_drew)); exact HO271.out)) k_ hk, Kd.fresh' (Kd.N_lt (by (with_reducible repeat (first | apply Kd.N_alloc | apply Kd.N_drewN | apply Kd.N_drew)); exact HO274.out)) k_ hk, Kd.freshB (g := gb249) (o := .cells #[.int .i64 t244, .slice Ao37 t245.length co37] 26 (0, 0)) (by (with_reducible repeat (first | refine blk_drewN ?_ _ | refine blk_drew ?_ | refine blk_alloc ?_ _)); exact BK249.out) k_ hk, Kd.freshB (g := gb256) (o := .cells #[.int .i64 t251, .slice Ao45 t252.length co45] 26 (0, 0)) (by (with_reducible repeat (first | refine blk_drewN ?_ _ | refine blk_drew ?_ | refine blk_alloc ?_ _)); exact BK256.out) k_ hk, Kd.freshB (g := gb262) (o := .cells #[.int .i64 t257, .slice Ao54 t258.length co54] 26 (0, 0)) (by (with_reducible repeat (first | refine blk_drewN ?_ _ | refine blk_drew ?_ | refine blk_alloc ?_ _)); exact BK262.out) k_ hk⟩) _ (Nat.le_refl _)) (Below.refl _ _) (Nat.le_refl _) (by simp) ?_; (case hd => rfl); (case hg => rfl); (case hr => first | (go_simp; done) | (go_simp; rfl)); (case hp => exact (Reps.c4 (show Kd.FK k32 _ _ (⟨wrap64 ((t238.length : Int) + 1), (t238.length : Int), (⟨t257, t258⟩ : S26)⟩ : S32) [.int .i64 (wrap64 ((t238.length : Int) + 1)), .int .i64 (t238.length : Int), .int .i64 t257, .slice Ao54 t258.length co54] from (k32_mkF _ _ (⟨wrap64 ((t238.length : Int) + 1), (t238.length : Int), (⟨t257, t258⟩ : S26)⟩ : S32) (Kd.R_reads' (Kd.R_mono (ok' := (fun k_ => some k_ ≠ (.slice Ao32 t238.length co32 : Value).ownBlock ∧ some k_ ≠ (.slice Ao37 t245.length co37 : Value).ownBlock ∧ some k_ ≠ (.slice Ao64 y269.length co64 : Value).ownBlock ∧ some k_ ≠ (.slice Ao65 y272.length co65 : Value).ownBlock ∧ k_ ≠ gb249 ∧ k_ ≠ gb256 ∧ k_ ≠ gb262)) (Kd.R_types (Kd.R_types (Kd.R_types (Kd.R_apart' (Kd.R_apart' (Kd.R_apart' (HO260.out) (Kd.N_typed HO_9.out) (by decide)) (Kd.N_typed HO271.out) (by decide)) (Kd.N_typed HO274.out) (by decide)) BK249.out (by decide)) BK256.out (by decide)) BK262.out (by decide)) (fun k_ hk => ⟨hk.1.1.1.1.1.2, ⟨hk.1.1.1.1.1.1, ⟨hk.1.1.1.1.2, ⟨hk.1.1.1.2, ⟨hk.1.1.2, ⟨hk.1.2, hk.2⟩⟩⟩⟩⟩⟩))).2.1 (Kd.R_F (Kd.R_mono (ok' := (fun k_ => some k_ ≠ (.slice Ao32 t238.length co32 : Value).ownBlock ∧ some k_ ≠ (.slice Ao37 t245.length co37 : Value).ownBlock ∧ some k_ ≠ (.slice Ao64 y269.length co64 : Value).ownBlock ∧ some k_ ≠ (.slice Ao65 y272.length co65 : Value).ownBlock ∧ k_ ≠ gb249 ∧ k_ ≠ gb256 ∧ k_ ≠ gb262)) (Kd.R_types (Kd.R_types (Kd.R_types (Kd.R_apart' (Kd.R_apart' (Kd.R_apart' (HO260.out) (Kd.N_typed HO_9.out) (by decide)) (Kd.N_typed HO271.out) (by decide)) (Kd.N_typed HO274.out) (by decide)) BK249.out (by decide)) BK256.out (by decide)) BK262.out (by decide)) (fun k_ hk => ⟨hk.1.1.1.1.1.2, ⟨hk.1.1.1.1.1.1, ⟨hk.1.1.1.1.2, ⟨hk.1.1.1.2, ⟨hk.1.1.2, ⟨hk.1.2, hk.2⟩⟩⟩⟩⟩⟩))))) (Reps.none _ _)))
                intro v284 w68 ho69 hb hg_ hnew_
                clear hg_ hnew_
                (first | rw [← Ny283.out] at ho69 | (simp only [Int.reduceToNat] at ho69; rw [← Ny283.out] at ho69))
                have n0_ := Aside0.mk (Kd.N_elder' (by (with_reducible repeat (first | apply Kd.N_alloc | apply Kd.N_drewN | apply Kd.N_drew)); exact HO_9.out) (Kd.N_base ho69) hb)
                have n1_ := Aside0.mk (Kd.R_below (by (with_reducible repeat (first | apply Kd.R_alloc | apply Kd.R_drewN | apply Kd.R_drew)); exact HO247.out) hb)
                have n2_ := Aside0.mk (Kd.N_elder' (by (with_reducible repeat (first | apply Kd.N_alloc | apply Kd.N_drewN | apply Kd.N_drew)); exact HO271.out) (Kd.N_base ho69) hb)
                have n3_ := Aside0.mk (Kd.N_elder' (by (with_reducible repeat (first | apply Kd.N_alloc | apply Kd.N_drewN | apply Kd.N_drew)); exact HO274.out) (Kd.N_base ho69) hb)
                have n4_ := Aside0.mk (Kd.N_lower ho69 (below_size (by repeat (first | (with_reducible first | exact HB.out | apply below_alloc | apply pw_below_drewN | apply below_drew1 | refine below_set ?_ GE249.out | refine below_set ?_ GE256.out | refine below_set ?_ GE262.out) | exact HB.out))))
                have n5_ := Aside0.mk (blk_below (g := gb249) (o := .cells #[.int .i64 t244, .slice Ao37 t245.length co37] 26 (0, 0)) (by (with_reducible repeat (first | refine blk_drewN ?_ _ | refine blk_drew ?_ | refine blk_alloc ?_ _)); exact BK249.out) hb)
                have n6_ := Aside0.mk (blk_below (g := gb256) (o := .cells #[.int .i64 t251, .slice Ao45 t252.length co45] 26 (0, 0)) (by (with_reducible repeat (first | refine blk_drewN ?_ _ | refine blk_drew ?_ | refine blk_alloc ?_ _)); exact BK256.out) hb)
                have n7_ := Aside0.mk (blk_below (g := gb262) (o := .cells #[.int .i64 t257, .slice Ao54 t258.length co54] 26 (0, 0)) (by (with_reducible repeat (first | refine blk_drewN ?_ _ | refine blk_drew ?_ | refine blk_alloc ?_ _)); exact BK262.out) hb)
                have n8_ := Aside0.mk (below_step (by repeat (first | (with_reducible first | exact HB.out | apply below_alloc | apply pw_below_drewN | apply below_drew1 | refine below_set ?_ GE249.out | refine below_set ?_ GE256.out | refine below_set ?_ GE262.out) | exact HB.out)) hb)
                clear HO_9
                clear HO247
                clear HO271
                clear HO274
                clear BK249
                clear BK256
                clear BK262
                clear HB
                clear HO260
                have HO_9 := n0_
                have HO247 := n1_
                have HO271 := n2_
                have HO274 := n3_
                have HO285 := n4_
                have BK249 := n5_
                have BK256 := n6_
                have BK262 := n7_
                have HB := n8_
                clear n0_ n1_ n2_ n3_ n4_ n5_ n6_ n7_ n8_
                clear hb ho69
                refine hK.out _ _ ⟨(blk_cell BK262.out 0).trans rfl, (blk_cell BK262.out 1).trans rfl⟩ (fun hHeld => ?_)
                clear hK K
                refine norm_ (a' := ?_) ?_ ?_
                rotate_left
                ·show Act.put _ (some 94) _ = _
                 simp only [Act.put, List.setIfInBounds_toArray, List.set_cons_zero, List.set_cons_succ, i64_w, i32_w]
                 rfl
                refine one_ (i := 0) (N := some 86) #[true, true, false, true, true, true, true, true, true, false, true, true, true, false, false, false, false, false, false] rfl rfl (one_of HT_.out (by kernel_rfl)) (by decide) (fun K hK => ?_)
                refine Kd.N_lit_step k32 _ 32 ?hg (N' := 86) ?hd (xs := ([] : List (S32))) (inner := []) (ok := (fun k_ => some k_ ≠ (.slice Ao32 t238.length co32 : Value).ownBlock ∧ some k_ ≠ (.slice Ao37 t245.length co37 : Value).ownBlock ∧ some k_ ≠ (.slice Ao64 y269.length co64 : Value).ownBlock ∧ some k_ ≠ (.slice Ao65 y272.length co65 : Value).ownBlock ∧ some k_ ≠ (v284 : Value).ownBlock ∧ k_ ≠ gb249 ∧ k_ ≠ gb256 ∧ k_ ≠ gb262)) (okp := (fun k_ => some k_ ≠ (.slice Ao32 t238.length co32 : Value).ownBlock ∧ some k_ ≠ (.slice Ao37 t245.length co37 : Value).ownBlock ∧ some k_ ≠ (.slice Ao64 y269.length co64 : Value).ownBlock ∧ some k_ ≠ (.slice Ao65 y272.length co65 : Value).ownBlock ∧ some k_ ≠ (v284 : Value).ownBlock ∧ k_ ≠ gb249 ∧ k_ ≠ gb256 ∧ k_ ≠ gb262)) ?hr ?hp (fun _ hk => hk) ((show ∀ k_, w68.heap.size ≤ k_ → (fun k_ => some k_ ≠ (.slice Ao32 t238.length co32 : Value).ownBlock ∧ some k_ ≠ (.slice Ao37 t245.length co37 : Value).ownBlock ∧ some k_ ≠ (.slice Ao64 y269.length co64 : Value).ownBlock ∧ some k_ ≠ (.slice Ao65 y272.length co65 : Value).ownBlock ∧ some k_ ≠ (v284 : Value).ownBlock ∧ k_ ≠ gb249 ∧ k_ ≠ gb256 ∧ k_ ≠ gb262) k_ from fun k_ hk => ⟨Kd.fresh' (Kd.N_lt (by (with_reducible repeat (first | apply Kd.N_alloc | apply Kd.N_drewN | apply Kd.N_drew)); exact HO_9.out)) k_ hk, Kd.fresh' (Kd.R_lt (by (with_reducible repeat (first | apply Kd.R_alloc | apply Kd.R_drewN | apply Kd.R_drew)); exact HO247.out)) k_ hk, Kd.fresh' (Kd.N_lt (by (with_reducible repeat (first | apply Kd.N_alloc | apply Kd.N_drewN | apply Kd.N_drew)); exact HO271.out)) k_ hk, Kd.fresh' (Kd.N_lt (by (with_reducible repeat (first | apply Kd.N_alloc | apply Kd.N_drewN | apply Kd.N_drew)); exact HO274.out)) k_ hk, Kd.fresh' (Kd.N_lt (by (with_reducible repeat (first | apply Kd.N_alloc | apply Kd.N_drewN | apply Kd.N_drew)); exact HO285.out)) k_ hk, Kd.freshB (g := gb249) (o := .cells #[.int .i64 t244, .slice Ao37 t245.length co37] 26 (0, 0)) (by (with_reducible repeat (first | refine blk_drewN ?_ _ | refine blk_drew ?_ | refine blk_alloc ?_ _)); exact BK249.out) k_ hk, Kd.freshB (g := gb256) (o := .cells #[.int .i64 t251, .slice Ao45 t252.length co45] 26 (0, 0)) (by (with_reducible repeat (first | refine blk_drewN ?_ _ | refine blk_drew ?_ | refine blk_alloc ?_ _)); exact BK256.out) k_ hk, Kd.freshB (g := gb262) (o := .cells #[.int .i64 t257, .slice Ao54 t258.length co54] 26 (0, 0)) (by (with_reducible repeat (first | refine blk_drewN ?_ _ | refine blk_drew ?_ | refine blk_alloc ?_ _)); exact BK262.out) k_ hk⟩) _ (Nat.le_refl _)) (Below.refl _ _) (Nat.le_refl _) (by simp) ?_; (case hd => rfl); (case hg => rfl); (case hr => first | (go_simp; done) | (go_simp; rfl)); (case hp => exact (Reps.none _ _))
                intro v278 w70 ho71 hb hg_ hnew_
                clear hg_ hnew_
                (first | rw [← Ny277.out] at ho71 | (simp only [Int.reduceToNat] at ho71; rw [← Ny277.out] at ho71))
                have n0_ := Aside0.mk (Kd.N_elder' (by (with_reducible repeat (first | apply Kd.N_alloc | apply Kd.N_drewN | apply Kd.N_drew)); exact HO_9.out) (Kd.N_base ho71) hb)
                have n1_ := Aside0.mk (Kd.R_below (by (with_reducible repeat (first | apply Kd.R_alloc | apply Kd.R_drewN | apply Kd.R_drew)); exact HO247.out) hb)
                have n2_ := Aside0.mk (Kd.N_elder' (by (with_reducible repeat (first | apply Kd.N_alloc | apply Kd.N_drewN | apply Kd.N_drew)); exact HO271.out) (Kd.N_base ho71) hb)
                have n3_ := Aside0.mk (Kd.N_elder' (by (with_reducible repeat (first | apply Kd.N_alloc | apply Kd.N_drewN | apply Kd.N_drew)); exact HO274.out) (Kd.N_base ho71) hb)
                have n4_ := Aside0.mk (Kd.N_elder' (by (with_reducible repeat (first | apply Kd.N_alloc | apply Kd.N_drewN | apply Kd.N_drew)); exact HO285.out) (Kd.N_base ho71) hb)
                have n5_ := Aside0.mk (Kd.N_lower ho71 (below_size (by repeat (first | (with_reducible first | exact HB.out | apply below_alloc | apply pw_below_drewN | apply below_drew1 | refine below_set ?_ GE249.out | refine below_set ?_ GE256.out | refine below_set ?_ GE262.out) | exact HB.out))))
                have n6_ := Aside0.mk (blk_below (g := gb249) (o := .cells #[.int .i64 t244, .slice Ao37 t245.length co37] 26 (0, 0)) (by (with_reducible repeat (first | refine blk_drewN ?_ _ | refine blk_drew ?_ | refine blk_alloc ?_ _)); exact BK249.out) hb)
                have n7_ := Aside0.mk (blk_below (g := gb256) (o := .cells #[.int .i64 t251, .slice Ao45 t252.length co45] 26 (0, 0)) (by (with_reducible repeat (first | refine blk_drewN ?_ _ | refine blk_drew ?_ | refine blk_alloc ?_ _)); exact BK256.out) hb)
                have n8_ := Aside0.mk (blk_below (g := gb262) (o := .cells #[.int .i64 t257, .slice Ao54 t258.length co54] 26 (0, 0)) (by (with_reducible repeat (first | refine blk_drewN ?_ _ | refine blk_drew ?_ | refine blk_alloc ?_ _)); exact BK262.out) hb)
                have n9_ := Aside0.mk (below_step (by repeat (first | (with_reducible first | exact HB.out | apply below_alloc | apply pw_below_drewN | apply below_drew1 | refine below_set ?_ GE249.out | refine below_set ?_ GE256.out | refine below_set ?_ GE262.out) | exact HB.out)) hb)
                clear HO_9
                clear HO247
                clear HO271
                clear HO274
                clear HO285
                clear BK249
                clear BK256
                clear BK262
                clear HB
                have HO_9 := n0_
                have HO247 := n1_
                have HO271 := n2_
                have HO274 := n3_
                have HO285 := n4_
                have HO279 := n5_
                have BK249 := n6_
                have BK256 := n7_
                have BK262 := n8_
                have HB := n9_
                clear n0_ n1_ n2_ n3_ n4_ n5_ n6_ n7_ n8_ n9_
                clear hb ho71
                refine hK.out _ _ ⟨(blk_cell BK262.out 0).trans rfl, (blk_cell BK262.out 1).trans rfl⟩ (fun hHeld => ?_)
                clear hK K
                refine norm_ (a' := ?_) ?_ ?_
                rotate_left
                ·show Act.put _ (some 86) _ = _
                 simp only [Act.put, List.setIfInBounds_toArray, List.set_cons_zero, List.set_cons_succ, i64_w, i32_w]
                 rfl
                refine one_ (i := 2) (N := some 88) #[true, true, true, true, true, true, true, true, true, false, true, true, true, false, false, false, false, false, false] rfl rfl (one_of HT_.out (by kernel_rfl)) (by decide) (fun K hK => ?_)
                refine Kd.N_append_rows_step k32 (w0 := w) w.heap.size (by rfl) (.tmp 86) (.tmp 87) 30 32 (.agg #[(.int .i64 0), (.int .i64 0), (.int .i64 0), (.slice none 0 0)]) 48 rfl Try.underlying30 info32 rfl (by decide) (by omega) v278 y277 t238 _ _ _ (fun k_ => some k_ ≠ (.slice Ao37 t245.length co37 : Value).ownBlock ∧ some k_ ≠ (.slice Ao64 y269.length co64 : Value).ownBlock ∧ some k_ ≠ (.slice Ao65 y272.length co65 : Value).ownBlock ∧ some k_ ≠ (v284 : Value).ownBlock ∧ k_ ≠ gb249 ∧ k_ ≠ gb256 ∧ k_ ≠ gb262) (fun k_ => ((fun k_ => some k_ ≠ (.slice Ao37 t245.length co37 : Value).ownBlock ∧ some k_ ≠ (.slice Ao64 y269.length co64 : Value).ownBlock ∧ some k_ ≠ (.slice Ao65 y272.length co65 : Value).ownBlock ∧ some k_ ≠ (v284 : Value).ownBlock ∧ k_ ≠ gb249 ∧ k_ ≠ gb256 ∧ k_ ≠ gb262)) k_ ∧ some k_ ≠ (v278 : Value).ownBlock) rfl rfl ?aO ?aR (fun _ hk => hk) ?aF ?aB ?aS ?aL ?_
                (case aR => exact (by skip; exact Kd.N_F (Kd.N_mono (ok' := (fun k_ => ((fun k_ => some k_ ≠ (.slice Ao37 t245.length co37 : Value).ownBlock ∧ some k_ ≠ (.slice Ao64 y269.length co64 : Value).ownBlock ∧ some k_ ≠ (.slice Ao65 y272.length co65 : Value).ownBlock ∧ some k_ ≠ (v284 : Value).ownBlock ∧ k_ ≠ gb249 ∧ k_ ≠ gb256 ∧ k_ ≠ gb262)) k_ ∧ some k_ ≠ (v278 : Value).ownBlock)) (HO_9.out) (fun k_ hk => ⟨⟨hk.1.1.1.1, ⟨hk.1.1.1.2.2.1, ⟨hk.1.1.2, ⟨hk.1.2, ⟨hk.1.1.1.2.2.2.1, ⟨hk.1.1.1.2.2.2.2.1, hk.1.1.1.2.2.2.2.2⟩⟩⟩⟩⟩⟩, hk.2⟩))))
                (case aB => exact (by repeat (first | (with_reducible first | exact HB.out | apply below_alloc | apply pw_below_drewN | apply below_drew1 | refine below_set ?_ GE249.out | refine below_set ?_ GE256.out | refine below_set ?_ GE262.out) | exact HB.out)))
                (case aF => exact (fun k_ hk => ⟨Kd.fresh' (Kd.R_lt (by (with_reducible repeat (first | apply Kd.R_alloc | apply Kd.R_drewN | apply Kd.R_drew)); exact HO247.out)) k_ hk, Kd.fresh' (Kd.N_lt (by (with_reducible repeat (first | apply Kd.N_alloc | apply Kd.N_drewN | apply Kd.N_drew)); exact HO271.out)) k_ hk, Kd.fresh' (Kd.N_lt (by (with_reducible repeat (first | apply Kd.N_alloc | apply Kd.N_drewN | apply Kd.N_drew)); exact HO274.out)) k_ hk, Kd.fresh' (Kd.N_lt (by (with_reducible repeat (first | apply Kd.N_alloc | apply Kd.N_drewN | apply Kd.N_drew)); exact HO285.out)) k_ hk, Kd.freshB (g := gb249) (o := .cells #[.int .i64 t244, .slice Ao37 t245.length co37] 26 (0, 0)) (by (with_reducible repeat (first | refine blk_drewN ?_ _ | refine blk_drew ?_ | refine blk_alloc ?_ _)); exact BK249.out) k_ hk, Kd.freshB (g := gb256) (o := .cells #[.int .i64 t251, .slice Ao45 t252.length co45] 26 (0, 0)) (by (with_reducible repeat (first | refine blk_drewN ?_ _ | refine blk_drew ?_ | refine blk_alloc ?_ _)); exact BK256.out) k_ hk, Kd.freshB (g := gb262) (o := .cells #[.int .i64 t257, .slice Ao54 t258.length co54] 26 (0, 0)) (by (with_reducible repeat (first | refine blk_drewN ?_ _ | refine blk_drew ?_ | refine blk_alloc ?_ _)); exact BK262.out) k_ hk⟩))
                (case aO => exact (by (with_reducible repeat (first | apply Kd.N_alloc | apply Kd.N_drewN | apply Kd.N_drew)); exact Kd.N_mono HO279.out (fun _ hk => ⟨hk.2.1, ⟨hk.2.2.1, ⟨hk.2.2.2.1, ⟨hk.2.2.2.2.1, ⟨hk.2.2.2.2.2.1, ⟨hk.2.2.2.2.2.2.1, hk.2.2.2.2.2.2.2⟩⟩⟩⟩⟩⟩)))
                (case aS => exact (below_size (by repeat (first | (with_reducible first | exact HB.out | apply below_alloc | apply pw_below_drewN | apply below_drew1 | refine below_set ?_ GE249.out | refine below_set ?_ GE256.out | refine below_set ?_ GE262.out) | exact HB.out))))
                (case aL => have := LMc22.out; omega)
                intro v281 w72 ho hb hg hat
                rw [← Ny280.out] at ho
                have n0_ := Aside0.mk (Kd.N_afterv (ok := (fun k_ => some k_ ≠ (.slice Ao37 t245.length co37 : Value).ownBlock ∧ some k_ ≠ (.slice Ao64 y269.length co64 : Value).ownBlock ∧ some k_ ≠ (.slice Ao65 y272.length co65 : Value).ownBlock ∧ some k_ ≠ (v284 : Value).ownBlock ∧ k_ ≠ gb249 ∧ k_ ≠ gb256 ∧ k_ ≠ gb262)) (by (with_reducible repeat (first | apply Kd.N_alloc | apply Kd.N_drewN | apply Kd.N_drew)); exact Kd.N_mono HO_9.out (fun _ hk => ⟨⟨hk.1.1.1.1, ⟨hk.1.1.1.2.2.1, ⟨hk.1.1.2, ⟨hk.1.2, ⟨hk.1.1.1.2.2.2.1, ⟨hk.1.1.1.2.2.2.2.1, hk.1.1.1.2.2.2.2.2⟩⟩⟩⟩⟩⟩, hk.2⟩)) hg hat)
                have n1_ := Aside0.mk (Kd.R_over' (by (with_reducible repeat (first | apply Kd.R_alloc | apply Kd.R_drewN | apply Kd.R_drew)); exact HO247.out) (Kd.N_typed (by (with_reducible repeat (first | apply Kd.N_alloc | apply Kd.N_drewN | apply Kd.N_drew)); exact HO279.out)) (by decide) hg)
                have n2_ := Aside0.mk (blk_grown (g := gb249) (o := .cells #[.int .i64 t244, .slice Ao37 t245.length co37] 26 (0, 0)) (by (with_reducible repeat (first | refine blk_drewN ?_ _ | refine blk_drew ?_ | refine blk_alloc ?_ _)); exact BK249.out) hg (Kd.N_ne HO279.out BK249.out (by decide)))
                have n3_ := Aside0.mk (blk_grown (g := gb256) (o := .cells #[.int .i64 t251, .slice Ao45 t252.length co45] 26 (0, 0)) (by (with_reducible repeat (first | refine blk_drewN ?_ _ | refine blk_drew ?_ | refine blk_alloc ?_ _)); exact BK256.out) hg (Kd.N_ne HO279.out BK256.out (by decide)))
                have n4_ := Aside0.mk (blk_grown (g := gb262) (o := .cells #[.int .i64 t257, .slice Ao54 t258.length co54] 26 (0, 0)) (by (with_reducible repeat (first | refine blk_drewN ?_ _ | refine blk_drew ?_ | refine blk_alloc ?_ _)); exact BK262.out) hg (Kd.N_ne HO279.out BK262.out (by decide)))
                have n5_ := Aside0.mk (Kd.N_afterv (ok := (fun k_ => some k_ ≠ (.slice Ao32 t238.length co32 : Value).ownBlock ∧ some k_ ≠ (.slice Ao37 t245.length co37 : Value).ownBlock ∧ some k_ ≠ (.slice Ao65 y272.length co65 : Value).ownBlock ∧ some k_ ≠ (v284 : Value).ownBlock ∧ k_ ≠ gb249 ∧ k_ ≠ gb256 ∧ k_ ≠ gb262)) (by (with_reducible repeat (first | apply Kd.N_alloc | apply Kd.N_drewN | apply Kd.N_drew)); exact Kd.N_mono HO271.out (fun _ hk => ⟨⟨hk.1.1.1.1, ⟨hk.1.1.1.2.1, ⟨hk.1.1.2, ⟨hk.1.2, ⟨hk.1.1.1.2.2.2.1, ⟨hk.1.1.1.2.2.2.2.1, hk.1.1.1.2.2.2.2.2⟩⟩⟩⟩⟩⟩, hk.2⟩)) hg hat)
                have n6_ := Aside0.mk (Kd.N_afterv (ok := (fun k_ => some k_ ≠ (.slice Ao37 t245.length co37 : Value).ownBlock ∧ some k_ ≠ (v284 : Value).ownBlock ∧ k_ ≠ gb249 ∧ k_ ≠ gb256 ∧ k_ ≠ gb262)) (by (with_reducible repeat (first | apply Kd.N_alloc | apply Kd.N_drewN | apply Kd.N_drew)); exact Kd.N_mono HO274.out (fun _ hk => ⟨⟨hk.1.1.1, ⟨hk.1.2, ⟨hk.1.1.2.2.1, ⟨hk.1.1.2.2.2.1, hk.1.1.2.2.2.2⟩⟩⟩⟩, hk.2⟩)) hg hat)
                have n7_ := Aside0.mk (Kd.N_afterv (ok := (fun k_ => some k_ ≠ (.slice Ao32 t238.length co32 : Value).ownBlock ∧ some k_ ≠ (.slice Ao37 t245.length co37 : Value).ownBlock ∧ some k_ ≠ (.slice Ao64 y269.length co64 : Value).ownBlock ∧ some k_ ≠ (.slice Ao65 y272.length co65 : Value).ownBlock ∧ k_ ≠ gb249 ∧ k_ ≠ gb256 ∧ k_ ≠ gb262)) (by (with_reducible repeat (first | apply Kd.N_alloc | apply Kd.N_drewN | apply Kd.N_drew)); exact HO285.out) hg hat)
                have n8_ := Aside0.mk (hb)
                have n9_ := Aside0.mk (ho)
                clear HO_9
                clear HO247
                clear BK249
                clear BK256
                clear BK262
                clear HO271
                clear HO274
                clear HO285
                clear HB
                clear HO279
                have HO_9 := n0_
                have HO247 := n1_
                have BK249 := n2_
                have BK256 := n3_
                have BK262 := n4_
                have HO271 := n5_
                have HO274 := n6_
                have HO285 := n7_
                have HB := n8_
                have HO282 := n9_
                clear n0_ n1_ n2_ n3_ n4_ n5_ n6_ n7_ n8_ n9_
                clear ho hb hg hat
                refine hK.out _ _ ⟨(blk_cell BK262.out 0).trans rfl, (blk_cell BK262.out 1).trans rfl⟩ (fun hHeld => ?_)
                clear hK K
                refine norm_ (a' := ?_) ?_ ?_
                rotate_left
                ·show Act.put _ (some 88) _ = _
                 simp only [Act.put, List.setIfInBounds_toArray, List.set_cons_zero, List.set_cons_succ, i64_w, i32_w]
                 rfl
                exact norm_ (by simp only [putAll, Act.put, List.setIfInBounds_toArray, List.set_cons_zero, List.set_cons_succ]) (hCont (v278, v281, v284) _ ⟨hHeld, (by (with_reducible repeat (first | apply Kd.R_alloc | apply Kd.R_drewN | apply Kd.R_drew)); exact Kd.R_mono HO247.out (fun _ hk => trivial)), (by (with_reducible repeat (first | apply Kd.N_alloc | apply Kd.N_drewN | apply Kd.N_drew)); exact Kd.N_mono HO271.out (fun _ hk => ⟨hk.1.2.1, ⟨hk.1.2.2.1, ⟨hk.2, ⟨hk.1.2.2.2.1, ⟨hk.1.1, ⟨hk.1.2.2.2.2.1, ⟨hk.1.2.2.2.2.2.1, hk.1.2.2.2.2.2.2⟩⟩⟩⟩⟩⟩⟩)), (by (with_reducible repeat (first | apply Kd.N_alloc | apply Kd.N_drewN | apply Kd.N_drew)); exact Kd.N_mono HO274.out (fun _ hk => ⟨hk.1.1, ⟨hk.2, ⟨hk.1.2.1, ⟨hk.1.2.2.1, ⟨hk.1.2.2.2.1, hk.1.2.2.2.2⟩⟩⟩⟩⟩)), (by (with_reducible repeat (first | apply Kd.N_alloc | apply Kd.N_drewN | apply Kd.N_drew)); exact HO282.out), (by (with_reducible repeat (first | apply Kd.N_alloc | apply Kd.N_drewN | apply Kd.N_drew)); exact Kd.N_mono HO285.out (fun _ hk => ⟨hk.1.2.1, ⟨hk.1.2.2.1, ⟨hk.1.2.2.2.1, ⟨hk.2, ⟨hk.1.1, ⟨hk.1.2.2.2.2.1, ⟨hk.1.2.2.2.2.2.1, hk.1.2.2.2.2.2.2⟩⟩⟩⟩⟩⟩⟩)), (by (with_reducible repeat (first | apply Kd.N_alloc | apply Kd.N_drewN | apply Kd.N_drew)); exact Kd.N_mono HO_9.out (fun _ hk => ⟨hk.1.1, ⟨hk.1.2.1, ⟨hk.1.2.2.1, ⟨hk.2, ⟨hk.1.2.2.2.1, ⟨hk.1.2.2.2.2.1, ⟨hk.1.2.2.2.2.2.1, hk.1.2.2.2.2.2.2⟩⟩⟩⟩⟩⟩⟩)), (by (with_reducible repeat (first | refine blk_drewN ?_ _ | refine blk_drew ?_ | refine blk_alloc ?_ _)); exact BK249.out), (by (with_reducible repeat (first | refine blk_drewN ?_ _ | refine blk_drew ?_ | refine blk_alloc ?_ _)); exact BK256.out), (by (with_reducible repeat (first | refine blk_drewN ?_ _ | refine blk_drew ?_ | refine blk_alloc ?_ _)); exact BK262.out), (by repeat (first | (with_reducible first | exact HB.out | apply below_alloc | apply pw_below_drewN | apply below_drew1 | refine below_set ?_ GE249.out | refine below_set ?_ GE256.out | refine below_set ?_ GE262.out) | exact HB.out))⟩)
              rintro ⟨v278, v281, v284⟩ w73 ⟨hS_, h0_, h1_, h2_, h3_, h4_, h5_, h6_, h7_, h8_, h9_⟩
              have n0_ : Aside0 (Kd.R k67 67 w73 w.heap.size (fun _ => True) (.slice Ao37 t245.length co37) t245) := ⟨h0_⟩
              have n1_ : Aside0 (Kd.N k32 32 w73 w.heap.size (fun k_ => some k_ ≠ (.slice Ao37 t245.length co37 : Value).ownBlock ∧ some k_ ≠ (.slice Ao65 y272.length co65 : Value).ownBlock ∧ some k_ ≠ (v281 : Value).ownBlock ∧ some k_ ≠ (v284 : Value).ownBlock ∧ some k_ ≠ (.slice Ao32 t238.length co32 : Value).ownBlock ∧ k_ ≠ gb249 ∧ k_ ≠ gb256 ∧ k_ ≠ gb262) (.slice Ao64 y269.length co64) y269) := ⟨h1_⟩
              have n2_ : Aside0 (Kd.N k32 32 w73 w.heap.size (fun k_ => some k_ ≠ (.slice Ao37 t245.length co37 : Value).ownBlock ∧ some k_ ≠ (v281 : Value).ownBlock ∧ some k_ ≠ (v284 : Value).ownBlock ∧ k_ ≠ gb249 ∧ k_ ≠ gb256 ∧ k_ ≠ gb262) (.slice Ao65 y272.length co65) y272) := ⟨h2_⟩
              have n3_ : Aside0 (Kd.N k32 32 w73 w.heap.size (fun k_ => some k_ ≠ (.slice Ao37 t245.length co37 : Value).ownBlock ∧ some k_ ≠ (.slice Ao64 y269.length co64 : Value).ownBlock ∧ some k_ ≠ (.slice Ao65 y272.length co65 : Value).ownBlock ∧ some k_ ≠ (v284 : Value).ownBlock ∧ k_ ≠ gb249 ∧ k_ ≠ gb256 ∧ k_ ≠ gb262) v281 y280) := ⟨h3_⟩
              have n4_ : Aside0 (Kd.N k32 32 w73 w.heap.size (fun k_ => some k_ ≠ (.slice Ao37 t245.length co37 : Value).ownBlock ∧ some k_ ≠ (.slice Ao64 y269.length co64 : Value).ownBlock ∧ some k_ ≠ (.slice Ao65 y272.length co65 : Value).ownBlock ∧ some k_ ≠ (v281 : Value).ownBlock ∧ some k_ ≠ (.slice Ao32 t238.length co32 : Value).ownBlock ∧ k_ ≠ gb249 ∧ k_ ≠ gb256 ∧ k_ ≠ gb262) v284 y283) := ⟨h4_⟩
              have n5_ : Aside0 (Kd.N k32 32 w73 w.heap.size (fun k_ => some k_ ≠ (.slice Ao37 t245.length co37 : Value).ownBlock ∧ some k_ ≠ (.slice Ao64 y269.length co64 : Value).ownBlock ∧ some k_ ≠ (.slice Ao65 y272.length co65 : Value).ownBlock ∧ some k_ ≠ (v281 : Value).ownBlock ∧ some k_ ≠ (v284 : Value).ownBlock ∧ k_ ≠ gb249 ∧ k_ ≠ gb256 ∧ k_ ≠ gb262) (.slice Ao32 t238.length co32) t238) := ⟨h5_⟩
              have n6_ : Aside0 (w73.heap[gb249]? = some (.cells #[.int .i64 t244, .slice Ao37 t245.length co37] 26 (0, 0))) := ⟨h6_⟩
              have n7_ : Aside0 (w73.heap[gb256]? = some (.cells #[.int .i64 t251, .slice Ao45 t252.length co45] 26 (0, 0))) := ⟨h7_⟩
              have n8_ : Aside0 (w73.heap[gb262]? = some (.cells #[.int .i64 t257, .slice Ao54 t258.length co54] 26 (0, 0))) := ⟨h8_⟩
              have n9_ : Aside0 (Below w.heap.size w w73) := ⟨h9_⟩
              clear HO_9
              clear HO247
              clear HO260
              clear HO271
              clear HO274
              clear BK249
              clear BK256
              clear BK262
              clear HB
              clear h0_ h1_ h2_ h3_ h4_ h5_ h6_ h7_ h8_ h9_
              have HO247 := n0_
              have HO271 := n1_
              have HO274 := n2_
              have HO282 := n3_
              have HO285 := n4_
              have HO_9 := n5_
              have BK249 := n6_
              have BK256 := n7_
              have BK262 := n8_
              have HB := n9_
              clear n0_ n1_ n2_ n3_ n4_ n5_ n6_ n7_ n8_ n9_
              have hHeld : w73.cell? ⟨gb262, 0, none⟩ = some (.int .i64 t257) ∧ w73.cell? ⟨gb262, 1, none⟩ = some (.slice Ao54 t258.length co54) := hS_
              obtain ⟨Ao75, co75, eo75⟩ := Kd.N_slice HO285.out
              (first | subst eo75 | (injection eo75 with f1_ f2_ f3_; have f4_ := f1_.symm; have f5_ := f3_.symm; clear f1_ f2_ f3_; subst f4_; subst f5_))
              refine norm_ (a' := ?_) ?_ ?_
              rotate_left
              ·simp only [putAll, Act.put, List.setIfInBounds_toArray, List.set_cons_zero, List.set_cons_succ]
               rfl
              refine one_ (i := 9) (N := some 95) #[true, true, true, true, true, true, true, true, true, true, true, true, true, false, false, false, false, false, false] rfl rfl (one_of HT_.out (by kernel_rfl)) (by decide) (fun K hK => ?_)
              refine Kd.N_append_rows_step k32 (w0 := w) w.heap.size (by rfl) (.tmp 88) (.tmp 94) 30 32 (.agg #[(.int .i64 0), (.int .i64 0), (.int .i64 0), (.slice none 0 0)]) 48 rfl Try.underlying30 info32 rfl (by decide) (by omega) v281 y280 y283 _ _ _ (fun k_ => some k_ ≠ (.slice Ao37 t245.length co37 : Value).ownBlock ∧ some k_ ≠ (.slice Ao64 y269.length co64 : Value).ownBlock ∧ some k_ ≠ (.slice Ao65 y272.length co65 : Value).ownBlock ∧ k_ ≠ gb249 ∧ k_ ≠ gb256 ∧ k_ ≠ gb262) (fun k_ => ((fun k_ => some k_ ≠ (.slice Ao37 t245.length co37 : Value).ownBlock ∧ some k_ ≠ (.slice Ao64 y269.length co64 : Value).ownBlock ∧ some k_ ≠ (.slice Ao65 y272.length co65 : Value).ownBlock ∧ k_ ≠ gb249 ∧ k_ ≠ gb256 ∧ k_ ≠ gb262)) k_ ∧ some k_ ≠ (v281 : Value).ownBlock) rfl rfl ?aO ?aR (fun _ hk => hk) ?aF ?aB ?aS ?aL ?_
              (case aR => exact (by skip; exact Kd.N_F (Kd.N_mono (ok' := (fun k_ => ((fun k_ => some k_ ≠ (.slice Ao37 t245.length co37 : Value).ownBlock ∧ some k_ ≠ (.slice Ao64 y269.length co64 : Value).ownBlock ∧ some k_ ≠ (.slice Ao65 y272.length co65 : Value).ownBlock ∧ k_ ≠ gb249 ∧ k_ ≠ gb256 ∧ k_ ≠ gb262)) k_ ∧ some k_ ≠ (v281 : Value).ownBlock)) (HO285.out) (fun k_ hk => ⟨⟨hk.1, ⟨hk.2.1, ⟨hk.2.2.1, ⟨hk.2.2.2.2.2.1, ⟨hk.2.2.2.2.2.2.1, hk.2.2.2.2.2.2.2⟩⟩⟩⟩⟩, hk.2.2.2.1⟩))))
              (case aB => exact (by repeat (first | (with_reducible first | exact HB.out | apply below_alloc | apply pw_below_drewN | apply below_drew1 | refine below_set ?_ GE249.out | refine below_set ?_ GE256.out | refine below_set ?_ GE262.out) | exact HB.out)))
              (case aF => exact (fun k_ hk => ⟨Kd.fresh' (Kd.R_lt (by (with_reducible repeat (first | apply Kd.R_alloc | apply Kd.R_drewN | apply Kd.R_drew)); exact HO247.out)) k_ hk, Kd.fresh' (Kd.N_lt (by (with_reducible repeat (first | apply Kd.N_alloc | apply Kd.N_drewN | apply Kd.N_drew)); exact HO271.out)) k_ hk, Kd.fresh' (Kd.N_lt (by (with_reducible repeat (first | apply Kd.N_alloc | apply Kd.N_drewN | apply Kd.N_drew)); exact HO274.out)) k_ hk, Kd.freshB (g := gb249) (o := .cells #[.int .i64 t244, .slice Ao37 t245.length co37] 26 (0, 0)) (by (with_reducible repeat (first | refine blk_drewN ?_ _ | refine blk_drew ?_ | refine blk_alloc ?_ _)); exact BK249.out) k_ hk, Kd.freshB (g := gb256) (o := .cells #[.int .i64 t251, .slice Ao45 t252.length co45] 26 (0, 0)) (by (with_reducible repeat (first | refine blk_drewN ?_ _ | refine blk_drew ?_ | refine blk_alloc ?_ _)); exact BK256.out) k_ hk, Kd.freshB (g := gb262) (o := .cells #[.int .i64 t257, .slice Ao54 t258.length co54] 26 (0, 0)) (by (with_reducible repeat (first | refine blk_drewN ?_ _ | refine blk_drew ?_ | refine blk_alloc ?_ _)); exact BK262.out) k_ hk⟩))
              (case aO => exact (by (with_reducible repeat (first | apply Kd.N_alloc | apply Kd.N_drewN | apply Kd.N_drew)); exact Kd.N_mono HO282.out (fun _ hk => ⟨hk.1, ⟨hk.2.1, ⟨hk.2.2.1, ⟨hk.2.2.2.2.1, ⟨hk.2.2.2.2.2.1, hk.2.2.2.2.2.2⟩⟩⟩⟩⟩)))
              (case aS => exact (below_size (by repeat (first | (with_reducible first | exact HB.out | apply below_alloc | apply pw_below_drewN | apply below_drew1 | refine below_set ?_ GE249.out | refine below_set ?_ GE256.out | refine below_set ?_ GE262.out) | exact HB.out))))
              (case aL => have := LMc23.out; omega)
              intro v287 w74 ho hb hg hat
              rw [← Ny286.out] at ho
              have n0_ := Aside0.mk (Kd.N_afterv (ok := (fun k_ => some k_ ≠ (.slice Ao37 t245.length co37 : Value).ownBlock ∧ some k_ ≠ (.slice Ao64 y269.length co64 : Value).ownBlock ∧ some k_ ≠ (.slice Ao65 y272.length co65 : Value).ownBlock ∧ some k_ ≠ (.slice Ao75 y283.length co75 : Value).ownBlock ∧ k_ ≠ gb249 ∧ k_ ≠ gb256 ∧ k_ ≠ gb262)) (by (with_reducible repeat (first | apply Kd.N_alloc | apply Kd.N_drewN | apply Kd.N_drew)); exact Kd.N_mono HO_9.out (fun _ hk => ⟨⟨hk.1, ⟨hk.2.1, ⟨hk.2.2.1, ⟨hk.2.2.2.2.1, ⟨hk.2.2.2.2.2.1, ⟨hk.2.2.2.2.2.2.1, hk.2.2.2.2.2.2.2⟩⟩⟩⟩⟩⟩, hk.2.2.2.1⟩)) hg hat)
              have n1_ := Aside0.mk (Kd.R_over' (by (with_reducible repeat (first | apply Kd.R_alloc | apply Kd.R_drewN | apply Kd.R_drew)); exact HO247.out) (Kd.N_typed (by (with_reducible repeat (first | apply Kd.N_alloc | apply Kd.N_drewN | apply Kd.N_drew)); exact HO282.out)) (by decide) hg)
              have n2_ := Aside0.mk (blk_grown (g := gb249) (o := .cells #[.int .i64 t244, .slice Ao37 t245.length co37] 26 (0, 0)) (by (with_reducible repeat (first | refine blk_drewN ?_ _ | refine blk_drew ?_ | refine blk_alloc ?_ _)); exact BK249.out) hg (Kd.N_ne HO282.out BK249.out (by decide)))
              have n3_ := Aside0.mk (blk_grown (g := gb256) (o := .cells #[.int .i64 t251, .slice Ao45 t252.length co45] 26 (0, 0)) (by (with_reducible repeat (first | refine blk_drewN ?_ _ | refine blk_drew ?_ | refine blk_alloc ?_ _)); exact BK256.out) hg (Kd.N_ne HO282.out BK256.out (by decide)))
              have n4_ := Aside0.mk (blk_grown (g := gb262) (o := .cells #[.int .i64 t257, .slice Ao54 t258.length co54] 26 (0, 0)) (by (with_reducible repeat (first | refine blk_drewN ?_ _ | refine blk_drew ?_ | refine blk_alloc ?_ _)); exact BK262.out) hg (Kd.N_ne HO282.out BK262.out (by decide)))
              have n5_ := Aside0.mk (Kd.N_afterv (ok := (fun k_ => some k_ ≠ (.slice Ao32 t238.length co32 : Value).ownBlock ∧ some k_ ≠ (.slice Ao37 t245.length co37 : Value).ownBlock ∧ some k_ ≠ (.slice Ao65 y272.length co65 : Value).ownBlock ∧ some k_ ≠ (.slice Ao75 y283.length co75 : Value).ownBlock ∧ k_ ≠ gb249 ∧ k_ ≠ gb256 ∧ k_ ≠ gb262)) (by (with_reducible repeat (first | apply Kd.N_alloc | apply Kd.N_drewN | apply Kd.N_drew)); exact Kd.N_mono HO271.out (fun _ hk => ⟨⟨hk.2.2.2.2.1, ⟨hk.1, ⟨hk.2.1, ⟨hk.2.2.2.1, ⟨hk.2.2.2.2.2.1, ⟨hk.2.2.2.2.2.2.1, hk.2.2.2.2.2.2.2⟩⟩⟩⟩⟩⟩, hk.2.2.1⟩)) hg hat)
              have n6_ := Aside0.mk (Kd.N_afterv (ok := (fun k_ => some k_ ≠ (.slice Ao37 t245.length co37 : Value).ownBlock ∧ some k_ ≠ (.slice Ao75 y283.length co75 : Value).ownBlock ∧ k_ ≠ gb249 ∧ k_ ≠ gb256 ∧ k_ ≠ gb262)) (by (with_reducible repeat (first | apply Kd.N_alloc | apply Kd.N_drewN | apply Kd.N_drew)); exact Kd.N_mono HO274.out (fun _ hk => ⟨⟨hk.1, ⟨hk.2.2.1, ⟨hk.2.2.2.1, ⟨hk.2.2.2.2.1, hk.2.2.2.2.2⟩⟩⟩⟩, hk.2.1⟩)) hg hat)
              have n7_ := Aside0.mk (Kd.N_afterv (ok := (fun k_ => some k_ ≠ (.slice Ao32 t238.length co32 : Value).ownBlock ∧ some k_ ≠ (.slice Ao37 t245.length co37 : Value).ownBlock ∧ some k_ ≠ (.slice Ao64 y269.length co64 : Value).ownBlock ∧ some k_ ≠ (.slice Ao65 y272.length co65 : Value).ownBlock ∧ k_ ≠ gb249 ∧ k_ ≠ gb256 ∧ k_ ≠ gb262)) (by (with_reducible repeat (first | apply Kd.N_alloc | apply Kd.N_drewN | apply Kd.N_drew)); exact Kd.N_mono HO285.out (fun _ hk => ⟨⟨hk.2.2.2.2.1, ⟨hk.1, ⟨hk.2.1, ⟨hk.2.2.1, ⟨hk.2.2.2.2.2.1, ⟨hk.2.2.2.2.2.2.1, hk.2.2.2.2.2.2.2⟩⟩⟩⟩⟩⟩, hk.2.2.2.1⟩)) hg hat)
              have n8_ := Aside0.mk (hb)
              have n9_ := Aside0.mk (ho)
              clear HO_9
              clear HO247
              clear BK249
              clear BK256
              clear BK262
              clear HO271
              clear HO274
              clear HO285
              clear HB
              clear HO282
              have HO_9 := n0_
              have HO247 := n1_
              have BK249 := n2_
              have BK256 := n3_
              have BK262 := n4_
              have HO271 := n5_
              have HO274 := n6_
              have HO285 := n7_
              have HB := n8_
              have HO288 := n9_
              clear n0_ n1_ n2_ n3_ n4_ n5_ n6_ n7_ n8_ n9_
              clear ho hb hg hat
              obtain ⟨Ao76, co76, eo76⟩ := Kd.N_slice HO288.out
              (first | subst eo76 | (injection eo76 with f1_ f2_ f3_; have f4_ := f1_.symm; have f5_ := f3_.symm; clear f1_ f2_ f3_; subst f4_; subst f5_))
              refine hK.out _ _ ⟨(blk_cell BK262.out 0).trans rfl, (blk_cell BK262.out 1).trans rfl⟩ (fun hHeld => ?_)
              clear hK K
              refine norm_ (a' := ?_) ?_ ?_
              rotate_left
              ·show Act.put _ (some 95) _ = _
               simp only [Act.put, List.setIfInBounds_toArray, List.set_cons_zero, List.set_cons_succ, i64_w, i32_w]
               rfl
              refine one_ (i := 13) (N := some 99) #[true, true, true, true, true, true, true, true, true, true, true, true, true, true, false, false, false, false, false] rfl rfl (one_of HT_.out (by kernel_rfl)) (by decide) (fun K hK => ?_)
              refine goes_ Try.func13 (by kernel_rfl) rfl #[.slice Ao76 y286.length co76, .int .i64 (wrap64 ((t238.length : Int) + 1)), .int .i64 t241] (by rfl) rfl rfl (by (try simp only [List.map_toArray, List.map_cons, List.map_nil]); first | done | rfl | (simp only [List.length_drop, List.length_take]; rfl)) ?_
              with_reducible refine (chain_Read.calls _ _ y286 (wrap64 ((t238.length : Int) + 1)) t241 t289 t290 _ ?side1 ?side2 A24.out).mono ?_
              (case side1 => repeat (first | exact (Kd.N_reads' HO288.out).2.2 | (with_reducible refine Kd.C_alloc ?_ _) | (with_reducible refine Kd.C_drewN ?_ _) | (with_reducible refine Kd.C_drew ?_)))
              (case side2 => exact (Kd.N_reads' HO288.out).2.1)
              rintro e w77 ⟨rfl, hb⟩
              refine ⟨_, rfl, ?_⟩
              have n0_ := Aside0.mk (Kd.N_below (by (with_reducible repeat (first | apply Kd.N_alloc | apply Kd.N_drewN | apply Kd.N_drew)); exact HO_9.out) hb)
              have n1_ := Aside0.mk (Kd.R_below (by (with_reducible repeat (first | apply Kd.R_alloc | apply Kd.R_drewN | apply Kd.R_drew)); exact HO247.out) hb)
              have n2_ := Aside0.mk (Kd.N_below (by (with_reducible repeat (first | apply Kd.N_alloc | apply Kd.N_drewN | apply Kd.N_drew)); exact HO271.out) hb)
              have n3_ := Aside0.mk (Kd.N_below (by (with_reducible repeat (first | apply Kd.N_alloc | apply Kd.N_drewN | apply Kd.N_drew)); exact HO274.out) hb)
              have n4_ := Aside0.mk (Kd.N_below (by (with_reducible repeat (first | apply Kd.N_alloc | apply Kd.N_drewN | apply Kd.N_drew)); exact HO285.out) hb)
              have n5_ := Aside0.mk (Kd.N_below (by (with_reducible repeat (first | apply Kd.N_alloc | apply Kd.N_drewN | apply Kd.N_drew)); exact HO288.out) hb)
              have n6_ := Aside0.mk (blk_below (g := gb249) (o := .cells #[.int .i64 t244, .slice Ao37 t245.length co37] 26 (0, 0)) (by (with_reducible repeat (first | refine blk_drewN ?_ _ | refine blk_drew ?_ | refine blk_alloc ?_ _)); exact BK249.out) hb)
              have n7_ := Aside0.mk (blk_below (g := gb256) (o := .cells #[.int .i64 t251, .slice Ao45 t252.length co45] 26 (0, 0)) (by (with_reducible repeat (first | refine blk_drewN ?_ _ | refine blk_drew ?_ | refine blk_alloc ?_ _)); exact BK256.out) hb)
              have n8_ := Aside0.mk (blk_below (g := gb262) (o := .cells #[.int .i64 t257, .slice Ao54 t258.length co54] 26 (0, 0)) (by (with_reducible repeat (first | refine blk_drewN ?_ _ | refine blk_drew ?_ | refine blk_alloc ?_ _)); exact BK262.out) hb)
              have n9_ := Aside0.mk (below_step (by repeat (first | (with_reducible first | exact HB.out | apply below_alloc | apply pw_below_drewN | apply below_drew1 | refine below_set ?_ GE249.out | refine below_set ?_ GE256.out | refine below_set ?_ GE262.out) | exact HB.out)) hb)
              clear HO_9
              clear HO247
              clear HO271
              clear HO274
              clear HO285
              clear HO288
              clear BK249
              clear BK256
              clear BK262
              clear HB
              have HO_9 := n0_
              have HO247 := n1_
              have HO271 := n2_
              have HO274 := n3_
              have HO285 := n4_
              have HO288 := n5_
              have BK249 := n6_
              have BK256 := n7_
              have BK262 := n8_
              have HB := n9_
              clear n0_ n1_ n2_ n3_ n4_ n5_ n6_ n7_ n8_ n9_
              (try clear hb)
              (try clear hb2)
              (try clear hk)
              (try clear hi)
              refine hK.out _ _ ⟨(blk_cell BK262.out 0).trans rfl, (blk_cell BK262.out 1).trans rfl⟩ (fun hHeld => ?_)
              clear hK K
              refine norm_ (a' := ?_) ?_ ?_
              rotate_left
              ·show Act.put _ (some 99) _ = _
               simp only [Act.put, List.setIfInBounds_toArray, List.set_cons_zero, List.set_cons_succ, i64_w, i32_w]
               rfl
              refine pure_ (i := 14) (N := some 85) (v := ?_) (a' := ?_) #[true, true, true, true, true, true, true, true, true, true, true, true, true, true, true, false, false, false, false] rfl rfl (any_of HT_.out (by kernel_rfl)) (fun _ _ _ h => h) (Or.inl ⟨by rfl, ?_⟩) ?_ ?_
              rotate_left
              ·intro w'
               go_simp
               with_reducible rfl
              rotate_left
              ·simp only [Act.put, List.setIfInBounds_toArray, List.set_cons_zero, List.set_cons_succ, i64_w, i32_w]
               rfl
              refine pure_ (i := 15) (N := some 100) (v := ?_) (a' := ?_) #[true, true, true, true, true, true, true, true, true, true, true, true, true, true, true, true, false, false, false] rfl rfl (any_of HT_.out (by kernel_rfl)) (fun _ _ _ h => h) (Or.inl ⟨by rfl, ?_⟩) ?_ ?_
              rotate_left
              ·intro w'
               go_simp
               with_reducible rfl
              rotate_left
              ·simp only [Act.put, List.setIfInBounds_toArray, List.set_cons_zero, List.set_cons_succ, i64_w, i32_w]
               rfl
              refine pure_ (i := 16) (N := some 101) (v := ?_) (a' := ?_) #[true, true, true, true, true, true, true, true, true, true, true, true, true, true, true, true, true, false, false] rfl rfl (any_of HT_.out (by kernel_rfl)) (fun _ _ _ h => h) (Or.inl ⟨by rfl, ?_⟩) ?_ ?_
              rotate_left
              ·intro w'
               go_simp
               with_reducible rfl
              rotate_left
              ·simp only [Act.put, List.setIfInBounds_toArray, List.set_cons_zero, List.set_cons_succ, i64_w, i32_w]
               rfl
              refine pure_ (i := 17) (N := some 21) (v := ?_) (a' := ?_) #[true, true, true, true, true, true, true, true, true, true, true, true, true, true, true, true, true, true, false] rfl rfl (any_of HT_.out (by kernel_rfl)) (fun _ _ _ h => h) (Or.inl ⟨by rfl, ?_⟩) ?_ ?_
              rotate_left
              ·intro w'
               go_simp
               with_reducible rfl
              rotate_left
              ·simp only [Act.put, List.setIfInBounds_toArray, List.set_cons_zero, List.set_cons_succ, i64_w, i32_w]
               rfl
              refine pure_ (i := 18) (N := some 22) (v := ?_) (a' := ?_) #[true, true, true, true, true, true, true, true, true, true, true, true, true, true, true, true, true, true, true] rfl rfl (any_of HT_.out (by kernel_rfl)) (fun _ _ _ h => h) (Or.inl ⟨by rfl, ?_⟩) ?_ ?_
              rotate_left
              ·intro w'
               go_simp
               with_reducible rfl
              rotate_left
              ·simp only [Act.put, List.setIfInBounds_toArray, List.set_cons_zero, List.set_cons_succ, i64_w, i32_w]
               rfl
              refine done_ (done_of HT_.out (by kernel_rfl)) ?_
              try go_wp2_with (first | (go_at_call 20; (with_reducible refine (rootcellarlaw11_cluster.calls kj6 0 t291 _ A30.out).mono ?_); rintro e w78 ⟨rfl, hb⟩; have n0_ := Aside0.mk (Kd.N_below (by (with_reducible repeat (first | apply Kd.N_alloc | apply Kd.N_drewN | apply Kd.N_drew)); exact HO_9.out) hb); have n1_ := Aside0.mk (Kd.R_below (by (with_reducible repeat (first | apply Kd.R_alloc | apply Kd.R_drewN | apply Kd.R_drew)); exact HO247.out) hb); have n2_ := Aside0.mk (Kd.N_below (by (with_reducible repeat (first | apply Kd.N_alloc | apply Kd.N_drewN | apply Kd.N_drew)); exact HO271.out) hb); have n3_ := Aside0.mk (Kd.N_below (by (with_reducible repeat (first | apply Kd.N_alloc | apply Kd.N_drewN | apply Kd.N_drew)); exact HO274.out) hb); have n4_ := Aside0.mk (Kd.N_below (by (with_reducible repeat (first | apply Kd.N_alloc | apply Kd.N_drewN | apply Kd.N_drew)); exact HO285.out) hb); have n5_ := Aside0.mk (Kd.N_below (by (with_reducible repeat (first | apply Kd.N_alloc | apply Kd.N_drewN | apply Kd.N_drew)); exact HO288.out) hb); have n6_ := Aside0.mk (blk_below (g := gb249) (o := .cells #[.int .i64 t244, .slice Ao37 t245.length co37] 26 (0, 0)) (by (with_reducible repeat (first | refine blk_drewN ?_ _ | refine blk_drew ?_ | refine blk_alloc ?_ _)); exact BK249.out) hb); have n7_ := Aside0.mk (blk_below (g := gb256) (o := .cells #[.int .i64 t251, .slice Ao45 t252.length co45] 26 (0, 0)) (by (with_reducible repeat (first | refine blk_drewN ?_ _ | refine blk_drew ?_ | refine blk_alloc ?_ _)); exact BK256.out) hb); have n8_ := Aside0.mk (blk_below (g := gb262) (o := .cells #[.int .i64 t257, .slice Ao54 t258.length co54] 26 (0, 0)) (by (with_reducible repeat (first | refine blk_drewN ?_ _ | refine blk_drew ?_ | refine blk_alloc ?_ _)); exact BK262.out) hb); have n9_ := Aside0.mk (below_step (by repeat (first | (with_reducible first | exact HB.out | apply below_alloc | apply pw_below_drewN | apply below_drew1 | refine below_set ?_ GE249.out | refine below_set ?_ GE256.out | refine below_set ?_ GE262.out) | exact HB.out)) hb); clear HO_9; clear HO247; clear HO271; clear HO274; clear HO285; clear HO288; clear BK249; clear BK256; clear BK262; clear HB; have HO_9 := n0_; have HO247 := n1_; have HO271 := n2_; have HO274 := n3_; have HO285 := n4_; have HO288 := n5_; have BK249 := n6_; have BK256 := n7_; have BK262 := n8_; have HB := n9_; clear n0_ n1_ n2_ n3_ n4_ n5_ n6_ n7_ n8_ n9_; (try clear hb); (try clear hb2); (try clear hk); (try clear hi)))
              go_ret
              exact ⟨by first | rfl | (simp [errW_none, errW_some] <;> rfl) | (simp [*, errW_none, errW_some] <;> rfl), by repeat (first | (with_reducible first | exact HB.out | apply below_alloc | apply pw_below_drewN | apply below_drew1 | refine below_set ?_ GE249.out | refine below_set ?_ GE256.out | refine below_set ?_ GE262.out) | exact HB.out)⟩
             ·rw [if_neg c31] at H
              exact absurd H (by simp)
            ·rw [if_neg c29] at H
             exact absurd H (by simp)
           ·rw [if_neg c28] at H
            exact absurd H (by simp)
          ·rw [if_neg c27] at H
           exact absurd H (by simp)
         ·rw [if_neg c26] at H
          exact absurd H (by simp)
        ·rw [if_neg c25] at H
         exact absurd H (by simp)
       ·rw [if_neg c23] at H
        exact absurd H (by simp)
      ·rw [if_neg c22] at H
       exact absurd H (by simp)
     ·rw [if_neg c20] at H
      exact absurd H (by simp)
    ·rw [if_neg c19] at H
     exact absurd H (by simp)

end Go.Proofs.Ytbeloaccgmgocaa.Pr
