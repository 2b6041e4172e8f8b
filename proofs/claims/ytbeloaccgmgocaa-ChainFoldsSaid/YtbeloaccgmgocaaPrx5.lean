-- Printed by a program of this session (wip/pr/hook.py) by way of the kit's printer; contracts of my own beside it.
import Derived.Test.YtbeloaccgmgocaaPrx0
import Derived.Test.YtbeloaccgmgocaaPrx1
import Derived.Test.YtbeloaccgmgocaaPrx4
import Derived.Test.YtbeloaccgmgocaaHCh
import Derived.Test.YtbeloaccgmgocaaHChFold
import Derived.Test.YtbeloaccgmgocaaHShown11
noncomputable section
namespace Go.Proofs.Ytbeloaccgmgocaa.Pr
open Go.RowKit Go.Proofs.YtbeloaccgmgocaaW.PrintWords Go.Proofs.YtbeloaccgmgocaaW.PrintLast Go.Proofs.YtbeloaccgmgocaaW.PrintMore
attribute [local go_sem] max2_int min2_int max_two min_two max_three min_three max_four min_four   -- for this text's walks alone
set_option linter.unusedVariables false
set_option linter.unusedSimpArgs false

/-! ### chain_Flat: function 18: a contract of my own -/
/-! ### rootcellarlaw11_ChainFolds: function 5 -/
mutual
def rootcellarlaw11_ChainFolds.j0 : Nat → Int → Bool → Int → List (S32) → Bool → Option (Bool)
 | 0, _, _, _, _, _ => none
 | k + 1, x2, x7, x8, x9, x34 => if x34 = true then (some x7) else ((rootcellarlaw11_pick.f x2 (x9.length : Int)).bind fun t177 => ((chain_Flat.f x9 (x9.length : Int)).bind fun bt178 => ((chain_Fold.f x9 (x9.length : Int) (wrap64 (1 + t177))).bind fun bt180 => (if bt178.2 = 0 then (if bt180.2.2.2 = 0 then (if bt180.2.2.1 = (wrap64 ((x9.length : Int) - (wrap64 (1 + t177)))) then (rootcellarlaw11_ChainFolds.j1 k (wrap64 (1 + t177)) x9 (x9.length : Int) bt178.1 bt180.2.2.1 ((bt178.1.size : Int) != (wrap64 (16 * x8))) bt180.1 bt180.2.1) else (none)) else (none)) else (none)))))
def rootcellarlaw11_ChainFolds.j1 : Nat → Int → List (S32) → Int → ByteArray → Int → Bool → Int → List (S67) → Option (Bool)
 | 0, _, _, _, _, _, _, _, _ => none
 | k + 1, x2, x9, x10, x11, x14, x75, x187000, x187001 => if x75 = true then (none) else ((some (([] : List (S32)) : List (S32))).bind fun y187 => (if 0 ≤ (wrap64 (x10 - x2)) then (if (wrap64 (x10 - x2)) ≤ (x9.length : Int) then ((some (x9.take ((wrap64 (x10 - x2)) : Int).toNat : List (S32))).bind fun y190 => (if y187.length + y190.length < 2932031007402 then ((some (y187 ++ y190 : List (S32))).bind fun y195 => (if y195.length < 2932031007402 then ((some (y195 ++ [(⟨x10, x14, (⟨x187000, x187001⟩ : S26)⟩ : S32)] : List (S32))).bind fun y198 => ((chain_Flat.f y198 x10).bind fun bt201 => ((chain_Path.f y198 x10).bind fun bt203 => (if bt201.2 = 0 then (if bt203.2 = 0 then (if bt201.1.toList = x11.toList then (some ((bt203.1.length : Int) == (wrap64 ((wrap64 (x10 - x2)) + 1)))) else (none)) else (none)) else (none))))) else (none))) else (none))) else (none)) else (none)))
end
def rootcellarlaw11_ChainFolds.f (k : Nat) (a0 : Int) (l1 : List (List Int)) (a2 : Int) : Option (Bool) := (rootcellarlaw11_shown.f).bind fun t172 => ((rootcellarlaw11_pick.f a0 64).bind fun t173 => ((rootcellarlaw11_row.f k (wrap64 (1 + t173)) l1).bind fun t174 => (if t172 = true then (rootcellarlaw11_ChainFolds.j0 k a2 t172 (wrap64 (1 + t173)) t174 ((t174.length : Int) == 0)) else (none))))
theorem rootcellarlaw11_ChainFolds.mono_l : ∀ k, (∀ y0 y1 y2 y3 y4, LeO (rootcellarlaw11_ChainFolds.j0 k y0 y1 y2 y3 y4) (rootcellarlaw11_ChainFolds.j0 (k + 1) y0 y1 y2 y3 y4)) ∧ (∀ y0 y1 y2 y3 y4 y5 y6 y7, LeO (rootcellarlaw11_ChainFolds.j1 k y0 y1 y2 y3 y4 y5 y6 y7) (rootcellarlaw11_ChainFolds.j1 (k + 1) y0 y1 y2 y3 y4 y5 y6 y7))
 | 0 => ⟨fun _ _ _ _ _ r h => by simp [rootcellarlaw11_ChainFolds.j0] at h, fun _ _ _ _ _ _ _ _ r h => by simp [rootcellarlaw11_ChainFolds.j1] at h⟩
 | k + 1 => by
  obtain ⟨ih0, ih1⟩ := rootcellarlaw11_ChainFolds.mono_l k
  refine ⟨?_, ?_⟩
  ·intro y0 y1 y2 y3 y4
   unfold rootcellarlaw11_ChainFolds.j0
   repeat' first
   | (with_reducible exact ih0 _ _ _ _ _)
   | (with_reducible exact ih1 _ _ _ _ _ _ _ _)
   | (with_reducible exact rootcellarlaw11_row.mono _ _ _)
   | (with_reducible exact LeO.refl _)
   | (with_reducible exact LeO.none _)
   | (with_reducible refine LeO.ite ?_ ?_)
   | (with_reducible refine LeO.bind ?_ (fun _ => ?_))
   | exact ih0 _ _ _ _ _
   | exact ih1 _ _ _ _ _ _ _ _
   | exact rootcellarlaw11_row.mono _ _ _
   | exact LeO.none _
   | refine LeO.ite ?_ ?_
   | refine LeO.bind ?_ (fun _ => ?_)
  ·intro y0 y1 y2 y3 y4 y5 y6 y7
   unfold rootcellarlaw11_ChainFolds.j1
   repeat' first
   | (with_reducible exact ih0 _ _ _ _ _)
   | (with_reducible exact ih1 _ _ _ _ _ _ _ _)
   | (with_reducible exact rootcellarlaw11_row.mono _ _ _)
   | (with_reducible exact LeO.refl _)
   | (with_reducible exact LeO.none _)
   | (with_reducible refine LeO.ite ?_ ?_)
   | (with_reducible refine LeO.bind ?_ (fun _ => ?_))
   | exact ih0 _ _ _ _ _
   | exact ih1 _ _ _ _ _ _ _ _
   | exact rootcellarlaw11_row.mono _ _ _
   | exact LeO.none _
   | refine LeO.ite ?_ ?_
   | refine LeO.bind ?_ (fun _ => ?_)
theorem rootcellarlaw11_ChainFolds.mono : ∀ a0 a1 a2 k, LeO (rootcellarlaw11_ChainFolds.f k a0 a1 a2) (rootcellarlaw11_ChainFolds.f (k + 1) a0 a1 a2) := by
 intro a0 a1 a2 k
 obtain ⟨ih0, ih1⟩ := rootcellarlaw11_ChainFolds.mono_l k
 unfold rootcellarlaw11_ChainFolds.f
 repeat' first
   | (with_reducible exact ih0 _ _ _ _ _)
   | (with_reducible exact ih1 _ _ _ _ _ _ _ _)
   | (with_reducible exact rootcellarlaw11_row.mono _ _ _)
   | (with_reducible exact LeO.refl _)
   | (with_reducible exact LeO.none _)
   | (with_reducible refine LeO.ite ?_ ?_)
   | (with_reducible refine LeO.bind ?_ (fun _ => ?_))
   | exact ih0 _ _ _ _ _
   | exact ih1 _ _ _ _ _ _ _ _
   | exact rootcellarlaw11_row.mono _ _ _
   | exact LeO.none _
   | refine LeO.ite ?_ ?_
   | refine LeO.bind ?_ (fun _ => ?_)
set_option maxHeartbeats 8000000 in
set_option maxRecDepth 100000 in
theorem rootcellarlaw11_ChainFolds.calls (k : Nat) (a0 : Int) (A1 : Option Addr) (c1 : Nat) (l1 : List (List Int)) (a2 : Int) (r : Bool) (w : World) (hr1 : Kd.C (Kd.slice 3 (Kd.int .i64)) w A1 l1.length l1) (hc1 : l1.length ≤ c1) (h : rootcellarlaw11_ChainFolds.f k a0 l1 a2 = some r) :
  Calls Try.prog 5 #[.int .i64 a0, .slice A1 l1.length c1, .int .i64 a2] w fun e w' => e = .returned (.bool r) ∧ Below w.heap.size w w' := by
 have hu26 := Try.underlying26
 have hu32 := Try.underlying32
 have HR1 := Aside0.mk hr1
 have HC1 := Aside0.mk hc1
 clear hr1 hc1
 have HB := Aside0.mk (Below.refl w.heap.size w)
 have H : ((rootcellarlaw11_shown.f).bind fun t172 => ((rootcellarlaw11_pick.f a0 64).bind fun t173 => ((rootcellarlaw11_row.f k (wrap64 (1 + t173)) l1).bind fun t174 => (if t172 = true then (rootcellarlaw11_ChainFolds.j0 k a2 t172 (wrap64 (1 + t173)) t174 ((t174.length : Int) == 0)) else (none))))) = some r := h
 clear h
 replace H := Option.bind_eq_some_iff.mp H
 obtain ⟨t172, A40, H⟩ := H
 replace H : ((rootcellarlaw11_pick.f a0 64).bind fun t173 => ((rootcellarlaw11_row.f k (wrap64 (1 + t173)) l1).bind fun t174 => (if t172 = true then (rootcellarlaw11_ChainFolds.j0 k a2 t172 (wrap64 (1 + t173)) t174 ((t174.length : Int) == 0)) else (none)))) = some r := H
 have A4 := Aside0.mk A40
 clear A40
 replace H := Option.bind_eq_some_iff.mp H
 obtain ⟨t173, A50, H⟩ := H
 replace H : ((rootcellarlaw11_row.f k (wrap64 (1 + t173)) l1).bind fun t174 => (if t172 = true then (rootcellarlaw11_ChainFolds.j0 k a2 t172 (wrap64 (1 + t173)) t174 ((t174.length : Int) == 0)) else (none))) = some r := H
 have A5 := Aside0.mk A50
 clear A50
 replace H := Option.bind_eq_some_iff.mp H
 obtain ⟨t174, A60, H⟩ := H
 replace H : (if t172 = true then (rootcellarlaw11_ChainFolds.j0 k a2 t172 (wrap64 (1 + t173)) t174 ((t174.length : Int) == 0)) else (none)) = some r := H
 have A6 := Aside0.mk A60
 clear A60
 have HC7 := Aside0.mk H
 clear H
 go_enter Try.func5, Try.ntmps5
 go_upto_region 4 with (first | ((with_reducible refine gate_callee (f := 9) rfl ?_); refine goesL_ (some 21) rfl rfl Try.func9 (by kernel_rfl) rfl #[] rfl (by (try simp only [List.map_toArray, List.map_cons, List.map_nil]); first | done | rfl | (simp only [List.length_drop, List.length_take]; rfl)) ?_; (with_reducible refine (rootcellarlaw11_shown.calls  t172 _ A4.out).mono ?_); rintro e w8 ⟨rfl, hb⟩; refine ⟨_, rfl, ?_⟩; have n0_ := Aside0.mk (below_step (by repeat (first | (with_reducible first | exact HB.out | apply below_alloc | apply pw_below_drewN | apply below_drew1) | exact HB.out)) hb); clear HB; have HB := n0_; clear n0_; (try clear hb); (try clear hb2); (try clear hk); (try clear hi)) | ((with_reducible refine gate_callee (f := 10) rfl ?_); refine goesL_ (some 23) rfl rfl Try.func10 (by kernel_rfl) rfl #[.int .i64 a0, .int .i64 64] rfl (by (try simp only [List.map_toArray, List.map_cons, List.map_nil]); first | done | rfl | (simp only [List.length_drop, List.length_take]; rfl)) ?_; (with_reducible refine (rootcellarlaw11_pick.calls a0 64 t173 _ A5.out).mono ?_); rintro e w' ⟨rfl, ⟨nd, rfl⟩⟩; refine ⟨_, rfl, ?_⟩) | ((with_reducible refine gate_callee (f := 15) rfl ?_); refine goesL_ (some 27) rfl rfl Try.func15 (by kernel_rfl) rfl #[.int .i64 (wrap64 (1 + t173)), .slice A1 l1.length c1] rfl (by (try simp only [List.map_toArray, List.map_cons, List.map_nil]); first | done | rfl | (simp only [List.length_drop, List.length_take]; rfl)) ?_; (with_reducible refine (rootcellarlaw11_row.calls k (wrap64 (1 + t173)) _ _ l1 t174 _ ?side1 ?side2 A6.out).mono ?_); (case side1 => repeat (first | exact (Kd.C_below HR1.out (by repeat (first | (with_reducible first | exact HB.out | apply below_alloc | apply pw_below_drewN | apply below_drew1) | exact HB.out))) | (with_reducible refine Kd.C_alloc ?_ _) | (with_reducible refine Kd.C_drewN ?_ _) | (with_reducible refine Kd.C_drew ?_))); (case side2 => exact HC1.out); rintro e w9 ⟨v175, rfl, ho0, hb⟩; refine ⟨_, rfl, ?_⟩; have n0_ := Aside0.mk (Kd.N_lower (Kd.N_mono (ok' := fun k_ => True) (Kd.S_N (Kd.S_bound ho0)) (fun k_ hk_ => trivial)) (below_size (by repeat (first | (with_reducible first | exact HB.out | apply below_alloc | apply pw_below_drewN | apply below_drew1) | exact HB.out)))); have n1_ := Aside0.mk (below_step (by repeat (first | (with_reducible first | exact HB.out | apply below_alloc | apply pw_below_drewN | apply below_drew1) | exact HB.out)) hb); clear HB; have HO176 := n0_; have HB := n1_; clear n0_ n1_; (try clear hb); (try clear hb2); (try clear hk); (try clear hi); (try clear ho0)))
 (try simp only [Act.put, List.setIfInBounds_toArray, List.set_cons_zero, List.set_cons_succ])
 go_cut [34] (fun v34 wc => ∃ (kq : Nat) (x34_6 : Bool), v34 = .bool x34_6 ∧ Aside0 (rootcellarlaw11_ChainFolds.j0 kq a2 t172 (wrap64 (1 + t173)) t174 x34_6 = some r) ∧ Aside0 (kq ≤ k) ∧ Aside0 (Kd.N k32 32 wc w.heap.size (fun _ => True) v175 t174) ∧ Aside0 (Below w.heap.size w wc))
 case first =>
  have H := HC7.out
  clear HC7
  by_cases c10 : t172 = true
  ·subst c10
   have H1 : (rootcellarlaw11_ChainFolds.j0 k a2 true (wrap64 (1 + t173)) t174 ((t174.length : Int) == 0)) = some r := by rw [if_pos rfl] at H; exact H
   clear H
   have H := H1
   clear H1
   have H' := Aside0.mk H
   clear H
   obtain ⟨Ao11, co11, eo11⟩ := Kd.N_slice HO176.out
   subst eo11
   go_wp2
   go_meet
   case rel => exact ⟨_, (((t174.length : Int) == 0)), (by first | rfl | (simp; done) | (simp [*]; done)), H', ⟨by first | omega | exact Nat.le_refl _⟩, ⟨by (with_reducible repeat (first | apply Kd.N_alloc | apply Kd.N_drewN | apply Kd.N_drew)); exact HO176.out⟩, ⟨by repeat (first | (with_reducible first | exact HB.out | apply below_alloc | apply pw_below_drewN | apply below_drew1) | exact HB.out)⟩⟩
  ·replace c10 := Bool.eq_false_iff.mpr c10
   subst c10
   have H1 : (none) = some r := by rw [if_neg (show ¬ (false = true) by decide)] at H; exact H
   clear H
   have H := H1
   clear H1
   exact absurd H (by simp)
 case rest =>
  clear HC7
  try clear c1
  try clear p2
  try clear c5
  try clear p6
  try clear c9
  try clear c10
  obtain ⟨kq, x34_6, rfl, HA, HJ6, HO_9, HB⟩ := hcut
  cases kq with
  | zero => exact absurd HA.out (by simp [rootcellarlaw11_ChainFolds.j0])
  | succ kj6 =>
   have H := HA.out
   clear HA
   simp only [rootcellarlaw11_ChainFolds.j0] at H
   by_cases c12 : x34_6 = true
   ·subst c12
    have H1 : (some t172) = some r := by rw [if_pos rfl] at H; exact H
    clear H
    have H := H1
    clear H1
    obtain rfl := Option.some.inj H
    go_wp2
    go_ret
    exact ⟨by first | rfl | (simp [errW_none, errW_some] <;> rfl) | (simp [*, errW_none, errW_some] <;> rfl), by repeat (first | (with_reducible first | exact HB.out | apply below_alloc | apply pw_below_drewN | apply below_drew1) | exact HB.out)⟩
   ·replace c12 := Bool.eq_false_iff.mpr c12
    subst c12
    have H1 : ((rootcellarlaw11_pick.f a2 (t174.length : Int)).bind fun t177 => ((chain_Flat.f t174 (t174.length : Int)).bind fun bt178 => ((chain_Fold.f t174 (t174.length : Int) (wrap64 (1 + t177))).bind fun bt180 => (if bt178.2 = 0 then (if bt180.2.2.2 = 0 then (if bt180.2.2.1 = (wrap64 ((t174.length : Int) - (wrap64 (1 + t177)))) then (rootcellarlaw11_ChainFolds.j1 kj6 (wrap64 (1 + t177)) t174 (t174.length : Int) bt178.1 bt180.2.2.1 ((bt178.1.size : Int) != (wrap64 (16 * (wrap64 (1 + t173))))) bt180.1 bt180.2.1) else (none)) else (none)) else (none))))) = some r := by rw [if_neg (show ¬ (false = true) by decide)] at H; exact H
    clear H
    have H := H1
    clear H1
    replace H := Option.bind_eq_some_iff.mp H
    obtain ⟨t177, A130, H⟩ := H
    replace H : ((chain_Flat.f t174 (t174.length : Int)).bind fun bt178 => ((chain_Fold.f t174 (t174.length : Int) (wrap64 (1 + t177))).bind fun bt180 => (if bt178.2 = 0 then (if bt180.2.2.2 = 0 then (if bt180.2.2.1 = (wrap64 ((t174.length : Int) - (wrap64 (1 + t177)))) then (rootcellarlaw11_ChainFolds.j1 kj6 (wrap64 (1 + t177)) t174 (t174.length : Int) bt178.1 bt180.2.2.1 ((bt178.1.size : Int) != (wrap64 (16 * (wrap64 (1 + t173))))) bt180.1 bt180.2.1) else (none)) else (none)) else (none)))) = some r := H
    have A13 := Aside0.mk A130
    clear A130
    replace H := Option.bind_eq_some_iff.mp H
    obtain ⟨⟨t178, t179⟩, A140, H⟩ := H
    replace H : ((chain_Fold.f t174 (t174.length : Int) (wrap64 (1 + t177))).bind fun bt180 => (if t179 = 0 then (if bt180.2.2.2 = 0 then (if bt180.2.2.1 = (wrap64 ((t174.length : Int) - (wrap64 (1 + t177)))) then (rootcellarlaw11_ChainFolds.j1 kj6 (wrap64 (1 + t177)) t174 (t174.length : Int) t178 bt180.2.2.1 ((t178.size : Int) != (wrap64 (16 * (wrap64 (1 + t173))))) bt180.1 bt180.2.1) else (none)) else (none)) else (none))) = some r := H
    have A14 := Aside0.mk A140
    clear A140
    replace H := Option.bind_eq_some_iff.mp H
    obtain ⟨⟨t180, t181, t184, t185⟩, A150, H⟩ := H
    replace H : (if t179 = 0 then (if t185 = 0 then (if t184 = (wrap64 ((t174.length : Int) - (wrap64 (1 + t177)))) then (rootcellarlaw11_ChainFolds.j1 kj6 (wrap64 (1 + t177)) t174 (t174.length : Int) t178 t184 ((t178.size : Int) != (wrap64 (16 * (wrap64 (1 + t173))))) t180 t181) else (none)) else (none)) else (none)) = some r := H
    have A15 := Aside0.mk A150
    clear A150
    have HC16 := Aside0.mk H
    clear H
    obtain ⟨Ao17, co17, eo17⟩ := Kd.N_slice HO_9.out
    subst eo17
    go_upto_region 10 with (first | ((with_reducible refine gate_callee (f := 10) rfl ?_); refine goesL_ (some 40) rfl rfl Try.func10 (by kernel_rfl) rfl #[.int .i64 a2, .int .i64 (t174.length : Int)] rfl (by (try simp only [List.map_toArray, List.map_cons, List.map_nil]); first | done | rfl | (simp only [List.length_drop, List.length_take]; rfl)) ?_; (with_reducible refine (rootcellarlaw11_pick.calls a2 (t174.length : Int) t177 _ A13.out).mono ?_); rintro e w' ⟨rfl, ⟨nd, rfl⟩⟩; refine ⟨_, rfl, ?_⟩; (try (rw [drewN_self wc]; generalize hq_ : World.drewN wc _ = wc; have n0_ : Aside0 (Kd.N k32 32 wc w.heap.size (fun _ => True) (.slice Ao17 t174.length co17) t174) := ⟨by rw [← hq_]; exact (by (with_reducible repeat (first | apply Kd.N_alloc | apply Kd.N_drewN | apply Kd.N_drew)); exact HO_9.out)⟩; have n1_ : Aside0 (Below w.heap.size w wc) := ⟨by rw [← hq_]; exact (by repeat (first | (with_reducible first | exact HB.out | apply below_alloc | apply pw_below_drewN | apply below_drew1) | exact HB.out))⟩; clear HO_9 HB hq_; have HO_9 := n0_; have HB := n1_; clear n0_ n1_))) | ((with_reducible refine gate_callee (f := 18) rfl ?_); refine goesL_ (some 45) rfl rfl Try.func18 (by kernel_rfl) rfl #[.slice Ao17 t174.length co17, .int .i64 (t174.length : Int)] rfl (by (try simp only [List.map_toArray, List.map_cons, List.map_nil]); first | done | rfl | (simp only [List.length_drop, List.length_take]; rfl)) ?_; (with_reducible refine (chain_Flat.calls _ _ t174 (t174.length : Int) t178 t179 _ ?side1 ?side2 A14.out).mono ?_); (case side1 => repeat (first | exact (Kd.N_reads' HO_9.out).2.2 | (with_reducible refine Kd.C_alloc ?_ _) | (with_reducible refine Kd.C_drewN ?_ _) | (with_reducible refine Kd.C_drew ?_))); (case side2 => exact (Kd.N_reads' HO_9.out).2.1); rintro e w18 ⟨rfl, hb⟩; refine ⟨_, rfl, ?_⟩; have n0_ := Aside0.mk (Kd.N_below (by (with_reducible repeat (first | apply Kd.N_alloc | apply Kd.N_drewN | apply Kd.N_drew)); exact HO_9.out) hb); have n1_ := Aside0.mk (below_step (by repeat (first | (with_reducible first | exact HB.out | apply below_alloc | apply pw_below_drewN | apply below_drew1) | exact HB.out)) hb); clear HO_9; clear HB; have HO_9 := n0_; have HB := n1_; clear n0_ n1_; (try clear hb); (try clear hb2); (try clear hk); (try clear hi)) | ((with_reducible refine gate_callee (f := 14) rfl ?_); refine goesL_ (some 52) rfl rfl Try.func14 (by kernel_rfl) rfl #[.slice Ao17 t174.length co17, .int .i64 (t174.length : Int), .int .i64 (wrap64 (1 + t177))] rfl (by (try simp only [List.map_toArray, List.map_cons, List.map_nil]); first | done | rfl | (simp only [List.length_drop, List.length_take]; rfl)) ?_; (with_reducible refine (chain_Fold.calls _ _ t174 (t174.length : Int) (wrap64 (1 + t177)) t180 t181 t184 t185 _ ?side1 ?side2 A15.out).mono ?_); (case side1 => repeat (first | exact (Kd.N_reads' HO_9.out).2.2 | (with_reducible refine Kd.C_alloc ?_ _) | (with_reducible refine Kd.C_drewN ?_ _) | (with_reducible refine Kd.C_drew ?_))); (case side2 => exact (Kd.N_reads' HO_9.out).2.1); rintro e w19 ⟨v182, rfl, ho0, hb⟩; refine ⟨_, rfl, ?_⟩; have n0_ := Aside0.mk (Kd.N_elder' (by (with_reducible repeat (first | apply Kd.N_alloc | apply Kd.N_drewN | apply Kd.N_drew)); exact HO_9.out) (Kd.R_base ho0) hb); have n1_ := Aside0.mk (Kd.R_lower ho0 (below_size (by repeat (first | (with_reducible first | exact HB.out | apply below_alloc | apply pw_below_drewN | apply below_drew1) | exact HB.out)))); have n2_ := Aside0.mk (below_step (by repeat (first | (with_reducible first | exact HB.out | apply below_alloc | apply pw_below_drewN | apply below_drew1) | exact HB.out)) hb); clear HO_9; clear HB; have HO_9 := n0_; have HO183 := n1_; have HB := n2_; clear n0_ n1_ n2_; (try clear hb); (try clear hb2); (try clear hk); (try clear hi); (try clear ho0)) | ((with_reducible refine gate_dst (N := 13) rfl ?_); (try (refine gate_guard (by rfl) ?_; dsimp only)); refine box_event ?hg (N := 13) ?hd (cs := #[.int .i64 0, .slice none 0 0]) (t := 26) ?hr ?_; (case hd => rfl); (case hg => rfl); (case hr => first | (go_simp; done) | (go_simp; rfl)); intro gb186 hg w20 hbox hb; have n0_ := Aside0.mk (Kd.N_below (Kd.N_elderB (by (with_reducible repeat (first | apply Kd.N_alloc | apply Kd.N_drewN | apply Kd.N_drew)); exact HO_9.out) gb186 (Nat.le_of_eq hg.symm)) hb); have n1_ := Aside0.mk (Kd.R_below (by (with_reducible repeat (first | apply Kd.R_alloc | apply Kd.R_drewN | apply Kd.R_drew)); exact HO183.out) hb); have n2_ := Aside0.mk (below_step (by repeat (first | (with_reducible first | exact HB.out | apply below_alloc | apply pw_below_drewN | apply below_drew1) | exact HB.out)) hb); have n3_ := Aside0.mk (hbox); have n4_ := Aside0.mk ((by rw [hg]; exact (below_size (by repeat (first | (with_reducible first | exact HB.out | apply below_alloc | apply pw_below_drewN | apply below_drew1) | exact HB.out))) : w.heap.size ≤ gb186)); have n5_ := Aside0.mk ((by rw [hg]; exact (below_size (by repeat (first | (with_reducible first | exact HB.out | apply below_alloc | apply pw_below_drewN | apply below_drew1) | exact HB.out))) : w.heap.size ≤ gb186)); clear HO_9; clear HO183; clear HB; have HO_9 := n0_; have HO183 := n1_; have HB := n2_; have BK186 := n3_; have GW186 := n4_; have GE186 := n5_; clear n0_ n1_ n2_ n3_ n4_ n5_; clear hb hbox hg; have hcz21_0 : w20.cell? ⟨gb186, 0, none⟩ = some (.int .i64 0) := (blk_cell BK186.out 0).trans rfl; have hcz21_1 : w20.cell? ⟨gb186, 1, none⟩ = some (.slice none 0 0) := (blk_cell BK186.out 1).trans rfl; have hfz21_0 := blk_frozen BK186.out 0; have hfz21_1 := blk_frozen BK186.out 1; obtain ⟨Ao22, co22, eo22⟩ := Kd.R_slice HO183.out; subst eo22))
    (try simp only [Act.put, List.setIfInBounds_toArray, List.set_cons_zero, List.set_cons_succ])
    go_cut [75] (fun v75 wc => ∃ (kq : Nat) (x75_15 : Bool), v75 = .bool x75_15 ∧ Aside0 (rootcellarlaw11_ChainFolds.j1 kq (wrap64 (1 + t177)) t174 (t174.length : Int) t178 t184 x75_15 t180 t181 = some r) ∧ Aside0 (kq ≤ kj6) ∧ Aside0 (Kd.N k32 32 wc w.heap.size (fun k_ => some k_ ≠ ((.slice Ao22 t181.length co22) : Value).ownBlock ∧ k_ ≠ gb186) (.slice Ao17 t174.length co17) t174) ∧ Aside0 (Kd.R k67 67 wc w.heap.size (fun _ => True) (.slice Ao22 t181.length co22) t181) ∧ Aside0 (wc.heap[gb186]? = some (.cells #[.int .i64 t180, (.slice Ao22 t181.length co22)] 26 (0, 0))) ∧ Aside0 (Below w.heap.size w wc))
    case first =>
     have H := HC16.out
     clear HC16
     by_cases c23 : t179 = 0
     ·rw [if_pos c23] at H
      have c23b0 : (t179 == 0) = true := beq_iff_eq.mpr c23
      have c23b1 : (t179 != 0) = false := bne_eq_false_iff_eq.mpr c23
      clear c23
      (first | rw [c23b0] | (simp only [i64_w, i32_w]; rw [c23b0]) | skip)
      by_cases c24 : t185 = 0
      ·rw [if_pos c24] at H
       have c24b0 : (t185 == 0) = true := beq_iff_eq.mpr c24
       have c24b1 : (t185 != 0) = false := bne_eq_false_iff_eq.mpr c24
       clear c24
       by_cases c25 : t184 = (wrap64 ((t174.length : Int) - (wrap64 (1 + t177))))
       ·rw [if_pos c25] at H
        have c25b0 : (t184 == (wrap64 ((t174.length : Int) - (wrap64 (1 + t177))))) = true := beq_iff_eq.mpr c25
        have c25b1 : (t184 != (wrap64 ((t174.length : Int) - (wrap64 (1 + t177))))) = false := bne_eq_false_iff_eq.mpr c25
        clear c25
        have H' := Aside0.mk H
        clear H
        go_wp2
        go_meet
        case rel => exact ⟨_, (((t178.size : Int) != (wrap64 (16 * (wrap64 (1 + t173)))))), (by first | rfl | (simp; done) | (simp [*]; done)), H', ⟨by have := HJ6.out; first | omega | exact Nat.le_refl _⟩, ⟨by (with_reducible repeat (first | apply Kd.N_alloc | apply Kd.N_drewN | apply Kd.N_drew)); exact Kd.N_mono (Kd.N_far (p := ⟨gb186, 1, none⟩) (Kd.N_far (p := ⟨gb186, 0, none⟩) (Kd.N_mono HO_9.out (fun k_ hk => (⟨hk, hk.2⟩ : _ ∧ k_ ≠ gb186))) (fun _ hk => hk.2) (.int .i64 t180)) (fun _ hk => hk.2) (.slice Ao22 t181.length co22)) (fun _ hk => ⟨hk.1.1.2, hk.1.2⟩)⟩, ⟨by (with_reducible repeat (first | apply Kd.R_alloc | apply Kd.R_drewN | apply Kd.R_drew)); exact Kd.R_mono (Kd.R_far (p := ⟨gb186, 1, none⟩) (Kd.R_far (p := ⟨gb186, 0, none⟩) (Kd.R_types HO183.out BK186.out (by decide)) (fun _ hk => hk.2) (.int .i64 t180)) (fun _ hk => hk.2) (.slice Ao22 t181.length co22)) (fun _ hk => trivial)⟩, ⟨by (with_reducible repeat (first | refine blk_drewN ?_ _ | refine blk_drew ?_ | refine blk_alloc ?_ _)); refine blk_put (cs := #[.int .i64 t180, .slice none 0 0]) ?_ 1 _ rfl; (with_reducible repeat (first | refine blk_drewN ?_ _ | refine blk_drew ?_ | refine blk_alloc ?_ _)); refine blk_put (cs := #[.int .i64 0, .slice none 0 0]) ?_ 0 _ rfl; (with_reducible repeat (first | refine blk_drewN ?_ _ | refine blk_drew ?_ | refine blk_alloc ?_ _)); exact BK186.out⟩, ⟨by repeat (first | (with_reducible first | exact HB.out | apply below_alloc | apply pw_below_drewN | apply below_drew1 | refine below_set ?_ GE186.out) | exact HB.out)⟩⟩
       ·rw [if_neg c25] at H
        exact absurd H (by simp)
      ·rw [if_neg c24] at H
       exact absurd H (by simp)
     ·rw [if_neg c23] at H
      exact absurd H (by simp)
    case rest =>
     clear HC16
     try clear c1
     try clear c2
     try clear p2
     try clear c5
     try clear p6
     try clear c9
     try clear c10
     try clear c12
     try clear c14
     try clear c15
     try clear c18
     try clear c23
     try clear c23b0
     try clear c23b1
     try clear c24
     try clear c24b0
     try clear c24b1
     try clear c25
     try clear c25b0
     try clear c25b1
     try clear hcz21_0
     try clear hcz21_1
     try clear hfz21_0
     try clear hfz21_1
     try clear p2
     try clear p6
     obtain ⟨kq, x75_15, rfl, HA, HJ15, HO_9, HO_187001, BK186, HB⟩ := hcut
     cases kq with
     | zero => exact absurd HA.out (by simp [rootcellarlaw11_ChainFolds.j1])
     | succ kj15 =>
      have H := HA.out
      clear HA
      simp only [rootcellarlaw11_ChainFolds.j1] at H
      by_cases c26 : x75_15 = true
      ·subst c26
       have H1 : (none) = some r := by rw [if_pos rfl] at H; exact H
       clear H
       have H := H1
       clear H1
       exact absurd H (by simp)
      ·replace c26 := Bool.eq_false_iff.mpr c26
       subst c26
       have H1 : ((some (([] : List (S32)) : List (S32))).bind fun y187 => (if 0 ≤ (wrap64 ((t174.length : Int) - (wrap64 (1 + t177)))) then (if (wrap64 ((t174.length : Int) - (wrap64 (1 + t177)))) ≤ (t174.length : Int) then ((some (t174.take ((wrap64 ((t174.length : Int) - (wrap64 (1 + t177)))) : Int).toNat : List (S32))).bind fun y190 => (if y187.length + y190.length < 2932031007402 then ((some (y187 ++ y190 : List (S32))).bind fun y195 => (if y195.length < 2932031007402 then ((some (y195 ++ [(⟨(t174.length : Int), t184, (⟨t180, t181⟩ : S26)⟩ : S32)] : List (S32))).bind fun y198 => ((chain_Flat.f y198 (t174.length : Int)).bind fun bt201 => ((chain_Path.f y198 (t174.length : Int)).bind fun bt203 => (if bt201.2 = 0 then (if bt203.2 = 0 then (if bt201.1.toList = t178.toList then (some ((bt203.1.length : Int) == (wrap64 ((wrap64 ((t174.length : Int) - (wrap64 (1 + t177)))) + 1)))) else (none)) else (none)) else (none))))) else (none))) else (none))) else (none)) else (none))) = some r := by rw [if_neg (show ¬ (false = true) by decide)] at H; exact H
       clear H
       have H := H1
       clear H1
       obtain ⟨y187, hy187⟩ : ∃ y_ : List (S32), y_ = (([] : List (S32))) := ⟨_, rfl⟩
       replace H : (if 0 ≤ (wrap64 ((t174.length : Int) - (wrap64 (1 + t177)))) then (if (wrap64 ((t174.length : Int) - (wrap64 (1 + t177)))) ≤ (t174.length : Int) then ((some (t174.take ((wrap64 ((t174.length : Int) - (wrap64 (1 + t177)))) : Int).toNat : List (S32))).bind fun y190 => (if y187.length + y190.length < 2932031007402 then ((some (y187 ++ y190 : List (S32))).bind fun y195 => (if y195.length < 2932031007402 then ((some (y195 ++ [(⟨(t174.length : Int), t184, (⟨t180, t181⟩ : S26)⟩ : S32)] : List (S32))).bind fun y198 => ((chain_Flat.f y198 (t174.length : Int)).bind fun bt201 => ((chain_Path.f y198 (t174.length : Int)).bind fun bt203 => (if bt201.2 = 0 then (if bt203.2 = 0 then (if bt201.1.toList = t178.toList then (some ((bt203.1.length : Int) == (wrap64 ((wrap64 ((t174.length : Int) - (wrap64 (1 + t177)))) + 1)))) else (none)) else (none)) else (none))))) else (none))) else (none))) else (none)) else (none)) = some r := by first | (rw [hy187]; with_reducible exact H) | (have H2_ := (Option.bind_some _ _).symm.trans H; rw [hy187]; with_reducible exact H2_) | (have H2_ := (Option.bind_some _ _).symm.trans H; with_reducible exact H2_) | with_reducible exact H | (rw [hy187]; exact H) | exact H
       have Ny187 := Aside0.mk hy187
       clear hy187
       obtain ⟨ji27, hji27⟩ : ∃ j_ : Int, (wrap64 ((t174.length : Int) - (wrap64 (1 + t177)))) = j_ := ⟨_, rfl⟩
       replace H : (if 0 ≤ (ji27) then (if (ji27) ≤ (t174.length : Int) then ((some (t174.take ((ji27) : Int).toNat : List (S32))).bind fun y190 => (if y187.length + y190.length < 2932031007402 then ((some (y187 ++ y190 : List (S32))).bind fun y195 => (if y195.length < 2932031007402 then ((some (y195 ++ [(⟨(t174.length : Int), t184, (⟨t180, t181⟩ : S26)⟩ : S32)] : List (S32))).bind fun y198 => ((chain_Flat.f y198 (t174.length : Int)).bind fun bt201 => ((chain_Path.f y198 (t174.length : Int)).bind fun bt203 => (if bt201.2 = 0 then (if bt203.2 = 0 then (if bt201.1.toList = t178.toList then (some ((bt203.1.length : Int) == (wrap64 ((ji27) + 1)))) else (none)) else (none)) else (none))))) else (none))) else (none))) else (none)) else (none)) = some r := by first | (rw [hji27] at H; exact H) | (simp only [hji27] at H ⊢; exact H)
       have hji27w : (IntKind.i64.wrap ((t174.length : Int) - (wrap64 (1 + t177)))) = ji27 := (i64_w _).trans hji27
       by_cases c28 : 0 ≤ (ji27)
       ·rw [if_pos c28] at H
        have c28b0 := eq_true c28
        have c28b1 : decide (0 ≤ (ji27)) = true := decide_eq_true c28
        clear c28
        by_cases c29 : (ji27) ≤ (t174.length : Int)
        ·rw [if_pos c29] at H
         have c29b0 := eq_true c29
         have c29b1 : decide ((ji27) ≤ (t174.length : Int)) = true := decide_eq_true c29
         clear c29
         obtain ⟨y190, hy190⟩ : ∃ y_ : List (S32), y_ = (t174.take ((ji27) : Int).toNat) := ⟨_, rfl⟩
         replace H : (if y187.length + y190.length < 2932031007402 then ((some (y187 ++ y190 : List (S32))).bind fun y195 => (if y195.length < 2932031007402 then ((some (y195 ++ [(⟨(t174.length : Int), t184, (⟨t180, t181⟩ : S26)⟩ : S32)] : List (S32))).bind fun y198 => ((chain_Flat.f y198 (t174.length : Int)).bind fun bt201 => ((chain_Path.f y198 (t174.length : Int)).bind fun bt203 => (if bt201.2 = 0 then (if bt203.2 = 0 then (if bt201.1.toList = t178.toList then (some ((bt203.1.length : Int) == (wrap64 ((ji27) + 1)))) else (none)) else (none)) else (none))))) else (none))) else (none)) = some r := by first | (rw [hy190]; with_reducible exact H) | (have H2_ := (Option.bind_some _ _).symm.trans H; rw [hy190]; with_reducible exact H2_) | (have H2_ := (Option.bind_some _ _).symm.trans H; with_reducible exact H2_) | with_reducible exact H | (rw [hy190]; exact H) | exact H
         have Ny190 := Aside0.mk hy190
         clear hy190
         by_cases c30 : y187.length + y190.length < 2932031007402
         ·rw [if_pos c30] at H
          have LMc30 := Aside0.mk c30
          clear c30
          obtain ⟨y195, hy195⟩ : ∃ y_ : List (S32), y_ = (y187 ++ y190) := ⟨_, rfl⟩
          replace H : (if y195.length < 2932031007402 then ((some (y195 ++ [(⟨(t174.length : Int), t184, (⟨t180, t181⟩ : S26)⟩ : S32)] : List (S32))).bind fun y198 => ((chain_Flat.f y198 (t174.length : Int)).bind fun bt201 => ((chain_Path.f y198 (t174.length : Int)).bind fun bt203 => (if bt201.2 = 0 then (if bt203.2 = 0 then (if bt201.1.toList = t178.toList then (some ((bt203.1.length : Int) == (wrap64 ((ji27) + 1)))) else (none)) else (none)) else (none))))) else (none)) = some r := by first | (rw [hy195]; with_reducible exact H) | (have H2_ := (Option.bind_some _ _).symm.trans H; rw [hy195]; with_reducible exact H2_) | (have H2_ := (Option.bind_some _ _).symm.trans H; with_reducible exact H2_) | with_reducible exact H | (rw [hy195]; exact H) | exact H
          have Ny195 := Aside0.mk hy195
          clear hy195
          by_cases c31 : y195.length < 2932031007402
          ·rw [if_pos c31] at H
           have LMc31 := Aside0.mk c31
           clear c31
           obtain ⟨y198, hy198⟩ : ∃ y_ : List (S32), y_ = (y195 ++ [(⟨(t174.length : Int), t184, (⟨t180, t181⟩ : S26)⟩ : S32)]) := ⟨_, rfl⟩
           replace H : ((chain_Flat.f y198 (t174.length : Int)).bind fun bt201 => ((chain_Path.f y198 (t174.length : Int)).bind fun bt203 => (if bt201.2 = 0 then (if bt203.2 = 0 then (if bt201.1.toList = t178.toList then (some ((bt203.1.length : Int) == (wrap64 ((ji27) + 1)))) else (none)) else (none)) else (none)))) = some r := by first | (rw [hy198]; with_reducible exact H) | (have H2_ := (Option.bind_some _ _).symm.trans H; rw [hy198]; with_reducible exact H2_) | (have H2_ := (Option.bind_some _ _).symm.trans H; with_reducible exact H2_) | with_reducible exact H | (rw [hy198]; exact H) | exact H
           have Ny198 := Aside0.mk hy198
           clear hy198
           replace H := Option.bind_eq_some_iff.mp H
           obtain ⟨⟨t201, t202⟩, A320, H⟩ := H
           replace H : ((chain_Path.f y198 (t174.length : Int)).bind fun bt203 => (if t202 = 0 then (if bt203.2 = 0 then (if t201.toList = t178.toList then (some ((bt203.1.length : Int) == (wrap64 ((ji27) + 1)))) else (none)) else (none)) else (none))) = some r := H
           have A32 := Aside0.mk A320
           clear A320
           replace H := Option.bind_eq_some_iff.mp H
           obtain ⟨⟨t203, t204⟩, A330, H⟩ := H
           replace H : (if t202 = 0 then (if t204 = 0 then (if t201.toList = t178.toList then (some ((t203.length : Int) == (wrap64 ((ji27) + 1)))) else (none)) else (none)) else (none)) = some r := H
           have A33 := Aside0.mk A330
           clear A330
           by_cases c34 : t202 = 0
           ·rw [if_pos c34] at H
            have c34b0 : (t202 == 0) = true := beq_iff_eq.mpr c34
            have c34b1 : (t202 != 0) = false := bne_eq_false_iff_eq.mpr c34
            clear c34
            by_cases c35 : t204 = 0
            ·rw [if_pos c35] at H
             have c35b0 : (t204 == 0) = true := beq_iff_eq.mpr c35
             have c35b1 : (t204 != 0) = false := bne_eq_false_iff_eq.mpr c35
             clear c35
             by_cases c36 : t201.toList = t178.toList
             ·rw [if_pos c36] at H
              have c36b0 : (t201.toList == t178.toList) = true := beq_iff_eq.mpr c36
              have c36b1 : (t201.toList != t178.toList) = false := bne_eq_false_iff_eq.mpr c36
              clear c36
              obtain rfl := Option.some.inj H
              go_wp2_with (first | ((with_reducible refine gate_dst (N := 76) rfl ?_); (try (refine gate_guard (by rfl) ?_; dsimp only)); refine Kd.N_lit k32 _ 32 ?hg (N' := 76) ?hd (xs := ([] : List (S32))) (inner := []) (ok := (fun k_ => some k_ ≠ (.slice Ao17 t174.length co17 : Value).ownBlock ∧ some k_ ≠ (.slice Ao22 t181.length co22 : Value).ownBlock ∧ k_ ≠ gb186)) (okp := (fun k_ => some k_ ≠ (.slice Ao17 t174.length co17 : Value).ownBlock ∧ some k_ ≠ (.slice Ao22 t181.length co22 : Value).ownBlock ∧ k_ ≠ gb186)) ?hr ?hp (fun _ hk => hk) ((show ∀ k_, wc.heap.size ≤ k_ → (fun k_ => some k_ ≠ (.slice Ao17 t174.length co17 : Value).ownBlock ∧ some k_ ≠ (.slice Ao22 t181.length co22 : Value).ownBlock ∧ k_ ≠ gb186) k_ from fun k_ hk => ⟨Kd.fresh' (Kd.N_lt (by (with_reducible repeat (first | apply Kd.N_alloc | apply Kd.N_drewN | apply Kd.N_drew)); exact HO_9.out)) k_ hk, Kd.fresh' (Kd.R_lt (by (with_reducible repeat (first | apply Kd.R_alloc | apply Kd.R_drewN | apply Kd.R_drew)); exact HO_187001.out)) k_ hk, Kd.freshB (g := gb186) (o := .cells #[.int .i64 t180, .slice Ao22 t181.length co22] 26 (0, 0)) (by (with_reducible repeat (first | refine blk_drewN ?_ _ | refine blk_drew ?_ | refine blk_alloc ?_ _)); exact BK186.out) k_ hk⟩) _ (Nat.le_refl _)) (Below.refl _ _) (Nat.le_refl _) (by simp) ?_; (case hd => rfl); (case hg => rfl); (case hr => first | (go_simp; done) | (go_simp; rfl)); (case hp => exact (Reps.none _ _)); intro v188 w37 ho38 hb hg_ hnew_; clear hg_ hnew_; (first | rw [← Ny187.out] at ho38 | (simp only [Int.reduceToNat] at ho38; rw [← Ny187.out] at ho38)); have n0_ := Aside0.mk (Kd.N_elder' (by (with_reducible repeat (first | apply Kd.N_alloc | apply Kd.N_drewN | apply Kd.N_drew)); exact HO_9.out) (Kd.N_base ho38) hb); have n1_ := Aside0.mk (Kd.R_below (by (with_reducible repeat (first | apply Kd.R_alloc | apply Kd.R_drewN | apply Kd.R_drew)); exact HO_187001.out) hb); have n2_ := Aside0.mk (Kd.N_lower ho38 (below_size (by repeat (first | (with_reducible first | exact HB.out | apply below_alloc | apply pw_below_drewN | apply below_drew1 | refine below_set ?_ GE186.out) | exact HB.out)))); have n3_ := Aside0.mk (blk_below (g := gb186) (o := .cells #[.int .i64 t180, .slice Ao22 t181.length co22] 26 (0, 0)) (by (with_reducible repeat (first | refine blk_drewN ?_ _ | refine blk_drew ?_ | refine blk_alloc ?_ _)); exact BK186.out) hb); have n4_ := Aside0.mk (below_step (by repeat (first | (with_reducible first | exact HB.out | apply below_alloc | apply pw_below_drewN | apply below_drew1 | refine below_set ?_ GE186.out) | exact HB.out)) hb); clear HO_9; clear HO_187001; clear BK186; clear HB; have HO_9 := n0_; have HO_187001 := n1_; have HO189 := n2_; have BK186 := n3_; have HB := n4_; clear n0_ n1_ n2_ n3_ n4_; clear hb ho38; have q39 : ((ji27) : Int) ≤ ((t174.length : Int) : Int) := of_decide_eq_true (by first | (with_reducible assumption) | assumption); obtain ⟨i039, hi039, _, hsz39, _⟩ := info_parts info32; have hroom39 : t174.length ≤ co17 := (Kd.N_reads' HO_9.out).2.1; have hC39 : Kd.F k32 _ _ Ao17 t174.length t174 := (Kd.V_at (base := w.heap.size) (Kd.N_V HO_9.out)).2.2; have hcut39 := cut_to (P := Try.prog) 30 32 .i64 Try.underlying30 hi039 Ao17 t174.length co17 (ji27) (of_decide_eq_true (by first | (with_reducible assumption) | assumption)) q39 hroom39; have hr39 := Kd.F_take (m := ((ji27) : Int).toNat) hC39 (by omega); have hy39 : y190.length = ((ji27) : Int).toNat := (by rw [Ny190.out, List.length_take]; omega); rw [← Ny190.out] at hr39; rw [← hy39] at hcut39; have HO194 := Aside0.mk (show Kd.V k32 32 _ w.heap.size _ (.slice Ao17 y190.length co17) y190 from Kd.V_mk (by omega) hr39); have HC194 := Aside0.mk (show y190.length ≤ co17 from by omega); clear hr39 hC39 hroom39 hi039 hsz39; have KY39 := Aside0.mk hy39; clear hy39; replace q39 := eq_true q39) | ((with_reducible refine gate_builtin (b := .append) (xs := #[.tmp 76, .tmp 81]) rfl ?_); (try (refine gate_guard (by rfl) ?_; dsimp only)); at_builtin; refine Kd.N_append_rows k32 (w0 := w) w.heap.size rfl (.tmp 76) (.tmp 81) 30 32 (.agg #[(.int .i64 0), (.int .i64 0), (.int .i64 0), (.slice none 0 0)]) 48 rfl Try.underlying30 info32 rfl (by decide) (by omega) v188 y187 y190 _ _ _ (fun k_ => some k_ ≠ (.slice Ao22 t181.length co22 : Value).ownBlock ∧ k_ ≠ gb186) (fun k_ => ((fun k_ => some k_ ≠ (.slice Ao22 t181.length co22 : Value).ownBlock ∧ k_ ≠ gb186)) k_ ∧ some k_ ≠ (v188 : Value).ownBlock) rfl rfl ?aO ?aR (fun _ hk => hk) ?aF ?aB ?aS ?aL ?_; (case aR => exact (by skip; exact Kd.V_F (Kd.V_mono (ok' := (fun k_ => ((fun k_ => some k_ ≠ (.slice Ao22 t181.length co22 : Value).ownBlock ∧ k_ ≠ gb186)) k_ ∧ some k_ ≠ (v188 : Value).ownBlock)) (HO194.out) (fun k_ hk => ⟨⟨hk.1.1, hk.1.2⟩, hk.2⟩)))); (case aB => exact (by repeat (first | (with_reducible first | exact HB.out | apply below_alloc | apply pw_below_drewN | apply below_drew1 | refine below_set ?_ GE186.out) | exact HB.out))); (case aF => exact (fun k_ hk => ⟨Kd.fresh' (Kd.R_lt (by (with_reducible repeat (first | apply Kd.R_alloc | apply Kd.R_drewN | apply Kd.R_drew)); exact HO_187001.out)) k_ hk, Kd.freshB (g := gb186) (o := .cells #[.int .i64 t180, .slice Ao22 t181.length co22] 26 (0, 0)) (by (with_reducible repeat (first | refine blk_drewN ?_ _ | refine blk_drew ?_ | refine blk_alloc ?_ _)); exact BK186.out) k_ hk⟩)); (case aO => exact (by (with_reducible repeat (first | apply Kd.N_alloc | apply Kd.N_drewN | apply Kd.N_drew)); exact Kd.N_mono HO189.out (fun _ hk => ⟨hk.2.1, hk.2.2⟩))); (case aS => exact (below_size (by repeat (first | (with_reducible first | exact HB.out | apply below_alloc | apply pw_below_drewN | apply below_drew1 | refine below_set ?_ GE186.out) | exact HB.out)))); (case aL => have := LMc30.out; omega); intro v196 w40 ho hb hg hat; rw [← Ny195.out] at ho; have n0_ := Aside0.mk (Kd.N_afterv (ok := (fun k_ => some k_ ≠ (.slice Ao22 t181.length co22 : Value).ownBlock ∧ k_ ≠ gb186)) (by (with_reducible repeat (first | apply Kd.N_alloc | apply Kd.N_drewN | apply Kd.N_drew)); exact HO_9.out) hg hat); have n1_ := Aside0.mk (Kd.R_over' (by (with_reducible repeat (first | apply Kd.R_alloc | apply Kd.R_drewN | apply Kd.R_drew)); exact HO_187001.out) (Kd.N_typed (by (with_reducible repeat (first | apply Kd.N_alloc | apply Kd.N_drewN | apply Kd.N_drew)); exact HO189.out)) (by decide) hg); have n2_ := Aside0.mk (blk_grown (g := gb186) (o := .cells #[.int .i64 t180, .slice Ao22 t181.length co22] 26 (0, 0)) (by (with_reducible repeat (first | refine blk_drewN ?_ _ | refine blk_drew ?_ | refine blk_alloc ?_ _)); exact BK186.out) hg (Kd.N_ne HO189.out BK186.out (by decide))); have n3_ := Aside0.mk (Kd.V_afterv (ok := (fun k_ => some k_ ≠ (.slice Ao22 t181.length co22 : Value).ownBlock ∧ k_ ≠ gb186)) (by (with_reducible repeat (first | apply Kd.V_alloc | apply Kd.V_drewN | apply Kd.V_drew)); exact HO194.out) hg hat); have n4_ := Aside0.mk (hb); have n5_ := Aside0.mk (ho); clear HO_9; clear HO_187001; clear BK186; clear HO194; clear HB; clear HO189; have HO_9 := n0_; have HO_187001 := n1_; have BK186 := n2_; have HO194 := n3_; have HB := n4_; have HO197 := n5_; clear n0_ n1_ n2_ n3_ n4_ n5_; clear ho hb hg hat; have hcz41_0 : w40.cell? ⟨gb186, 0, none⟩ = some (.int .i64 t180) := (blk_cell BK186.out 0).trans rfl; have hcz41_1 : w40.cell? ⟨gb186, 1, none⟩ = some (.slice Ao22 t181.length co22) := (blk_cell BK186.out 1).trans rfl; have hfz41_0 := blk_frozen BK186.out 0; have hfz41_1 := blk_frozen BK186.out 1) | ((with_reducible refine gate_builtin (b := .append) (xs := #[.tmp 83, .tmp 88]) rfl ?_); (try (refine gate_guard (by rfl) ?_; dsimp only)); at_builtin; refine Kd.N_append k32 (w0 := w) w.heap.size rfl (.tmp 83) (.tmp 88) 30 32 (.agg #[(.int .i64 0), (.int .i64 0), (.int .i64 0), (.slice none 0 0)]) 48 rfl Try.underlying30 info32 rfl (by decide) (by omega) v196 y195 (⟨(t174.length : Int), t184, (⟨t180, t181⟩ : S26)⟩ : S32) [.int .i64 (t174.length : Int), .int .i64 t184, .int .i64 t180, .slice Ao22 t181.length co22] (fun k_ => k_ ≠ gb186) (fun k_ => ((fun k_ => k_ ≠ gb186)) k_ ∧ some k_ ≠ (v196 : Value).ownBlock) rfl rfl ?aP (fun _ hk => hk) ?aF ?aO ?aB ?aS ?aL ?_; (case aP => exact (k32_mkF _ _ (⟨(t174.length : Int), t184, (⟨t180, t181⟩ : S26)⟩ : S32) (Kd.R_reads' (Kd.R_mono (ok' := (fun k_ => ((fun k_ => k_ ≠ gb186)) k_ ∧ some k_ ≠ (v196 : Value).ownBlock)) (Kd.R_types (Kd.R_apart' (HO_187001.out) (Kd.N_typed HO197.out) (by decide)) BK186.out (by decide)) (fun k_ hk => ⟨hk.2, hk.1.2⟩))).2.1 (Kd.R_F (Kd.R_mono (ok' := (fun k_ => ((fun k_ => k_ ≠ gb186)) k_ ∧ some k_ ≠ (v196 : Value).ownBlock)) (Kd.R_types (Kd.R_apart' (HO_187001.out) (Kd.N_typed HO197.out) (by decide)) BK186.out (by decide)) (fun k_ hk => ⟨hk.2, hk.1.2⟩))))); (case aB => exact (by repeat (first | (with_reducible first | exact HB.out | apply below_alloc | apply pw_below_drewN | apply below_drew1 | refine below_set ?_ GE186.out) | exact HB.out))); (case aF => exact (fun k_ hk => Kd.freshB (g := gb186) (o := .cells #[.int .i64 t180, .slice Ao22 t181.length co22] 26 (0, 0)) (by (with_reducible repeat (first | refine blk_drewN ?_ _ | refine blk_drew ?_ | refine blk_alloc ?_ _)); exact BK186.out) k_ hk)); (case aO => exact (by (with_reducible repeat (first | apply Kd.N_alloc | apply Kd.N_drewN | apply Kd.N_drew)); exact Kd.N_mono HO197.out (fun _ hk => hk.2))); (case aS => exact (below_size (by repeat (first | (with_reducible first | exact HB.out | apply below_alloc | apply pw_below_drewN | apply below_drew1 | refine below_set ?_ GE186.out) | exact HB.out)))); (case aL => have := LMc31.out; omega); intro v199 w42 ho hb hg hat; rw [← Ny198.out] at ho; have n0_ := Aside0.mk (Kd.N_afterv (ok := (fun k_ => some k_ ≠ (.slice Ao22 t181.length co22 : Value).ownBlock ∧ k_ ≠ gb186)) (by (with_reducible repeat (first | apply Kd.N_alloc | apply Kd.N_drewN | apply Kd.N_drew)); exact HO_9.out) hg hat); have n1_ := Aside0.mk (blk_grown (g := gb186) (o := .cells #[.int .i64 t180, .slice Ao22 t181.length co22] 26 (0, 0)) (by (with_reducible repeat (first | refine blk_drewN ?_ _ | refine blk_drew ?_ | refine blk_alloc ?_ _)); exact BK186.out) hg (Kd.N_ne HO197.out BK186.out (by decide))); have n2_ := Aside0.mk (Kd.V_afterv (ok := (fun k_ => some k_ ≠ (.slice Ao22 t181.length co22 : Value).ownBlock ∧ k_ ≠ gb186)) (by (with_reducible repeat (first | apply Kd.V_alloc | apply Kd.V_drewN | apply Kd.V_drew)); exact HO194.out) hg hat); have n3_ := Aside0.mk (hb); have n4_ := Aside0.mk (ho); clear HO_9; clear BK186; clear HO194; clear HB; clear HO197; clear HO_187001; have HO_9 := n0_; have BK186 := n1_; have HO194 := n2_; have HB := n3_; have HO200 := n4_; clear n0_ n1_ n2_ n3_ n4_; clear ho hb hg hat; obtain ⟨Ao43, co43, eo43⟩ := Kd.N_slice HO200.out; subst eo43) | ((with_reducible refine gate_callee (f := 18) rfl ?_); refine goesL_ (some 93) rfl rfl Try.func18 (by kernel_rfl) rfl #[.slice Ao43 y198.length co43, .int .i64 (t174.length : Int)] rfl (by (try simp only [List.map_toArray, List.map_cons, List.map_nil]); first | done | rfl | (simp only [List.length_drop, List.length_take]; rfl)) ?_; (with_reducible refine (chain_Flat.calls _ _ y198 (t174.length : Int) t201 t202 _ ?side1 ?side2 A32.out).mono ?_); (case side1 => repeat (first | exact (Kd.N_reads' HO200.out).2.2 | (with_reducible refine Kd.C_alloc ?_ _) | (with_reducible refine Kd.C_drewN ?_ _) | (with_reducible refine Kd.C_drew ?_))); (case side2 => exact (Kd.N_reads' HO200.out).2.1); rintro e w44 ⟨rfl, hb⟩; refine ⟨_, rfl, ?_⟩; have n0_ := Aside0.mk (Kd.N_below (by (with_reducible repeat (first | apply Kd.N_alloc | apply Kd.N_drewN | apply Kd.N_drew)); exact HO_9.out) hb); have n1_ := Aside0.mk (Kd.V_below (by (with_reducible repeat (first | apply Kd.V_alloc | apply Kd.V_drewN | apply Kd.V_drew)); exact HO194.out) hb); have n2_ := Aside0.mk (Kd.N_below (by (with_reducible repeat (first | apply Kd.N_alloc | apply Kd.N_drewN | apply Kd.N_drew)); exact HO200.out) hb); have n3_ := Aside0.mk (blk_below (g := gb186) (o := .cells #[.int .i64 t180, .slice Ao22 t181.length co22] 26 (0, 0)) (by (with_reducible repeat (first | refine blk_drewN ?_ _ | refine blk_drew ?_ | refine blk_alloc ?_ _)); exact BK186.out) hb); have n4_ := Aside0.mk (below_step (by repeat (first | (with_reducible first | exact HB.out | apply below_alloc | apply pw_below_drewN | apply below_drew1 | refine below_set ?_ GE186.out) | exact HB.out)) hb); clear HO_9; clear HO194; clear HO200; clear BK186; clear HB; have HO_9 := n0_; have HO194 := n1_; have HO200 := n2_; have BK186 := n3_; have HB := n4_; clear n0_ n1_ n2_ n3_ n4_; (try clear hb); (try clear hb2); (try clear hk); (try clear hi)) | ((with_reducible refine gate_callee (f := 12) rfl ?_); refine goesL_ (some 99) rfl rfl Try.func12 (by kernel_rfl) rfl #[.slice Ao43 y198.length co43, .int .i64 (t174.length : Int)] rfl (by (try simp only [List.map_toArray, List.map_cons, List.map_nil]); first | done | rfl | (simp only [List.length_drop, List.length_take]; rfl)) ?_; (with_reducible refine (chain_Path.calls _ _ y198 (t174.length : Int) t203 t204 _ ?side1 ?side2 A33.out).mono ?_); (case side1 => repeat (first | exact (Kd.N_reads' HO200.out).2.2 | (with_reducible refine Kd.C_alloc ?_ _) | (with_reducible refine Kd.C_drewN ?_ _) | (with_reducible refine Kd.C_drew ?_))); (case side2 => exact (Kd.N_reads' HO200.out).2.1); rintro e w45 ⟨v205, rfl, ho0, hb⟩; refine ⟨_, rfl, ?_⟩; have n0_ := Aside0.mk (Kd.N_elder' (by (with_reducible repeat (first | apply Kd.N_alloc | apply Kd.N_drewN | apply Kd.N_drew)); exact HO_9.out) (Kd.R_base ho0) hb); have n1_ := Aside0.mk (Kd.V_elder' (by (with_reducible repeat (first | apply Kd.V_alloc | apply Kd.V_drewN | apply Kd.V_drew)); exact HO194.out) (Kd.R_base ho0) hb); have n2_ := Aside0.mk (Kd.N_elder' (by (with_reducible repeat (first | apply Kd.N_alloc | apply Kd.N_drewN | apply Kd.N_drew)); exact HO200.out) (Kd.R_base ho0) hb); have n3_ := Aside0.mk (Kd.R_lower ho0 (below_size (by repeat (first | (with_reducible first | exact HB.out | apply below_alloc | apply pw_below_drewN | apply below_drew1 | refine below_set ?_ GE186.out) | exact HB.out)))); have n4_ := Aside0.mk (blk_below (g := gb186) (o := .cells #[.int .i64 t180, .slice Ao22 t181.length co22] 26 (0, 0)) (by (with_reducible repeat (first | refine blk_drewN ?_ _ | refine blk_drew ?_ | refine blk_alloc ?_ _)); exact BK186.out) hb); have n5_ := Aside0.mk (below_step (by repeat (first | (with_reducible first | exact HB.out | apply below_alloc | apply pw_below_drewN | apply below_drew1 | refine below_set ?_ GE186.out) | exact HB.out)) hb); clear HO_9; clear HO194; clear HO200; clear BK186; clear HB; have HO_9 := n0_; have HO194 := n1_; have HO200 := n2_; have HO206 := n3_; have BK186 := n4_; have HB := n5_; clear n0_ n1_ n2_ n3_ n4_ n5_; (try clear hb); (try clear hb2); (try clear hk); (try clear hi); (try clear ho0); obtain ⟨Ao46, co46, eo46⟩ := Kd.R_slice HO206.out; subst eo46))
              go_ret
              exact ⟨by first | rfl | (simp [errW_none, errW_some] <;> rfl) | (simp only [← hji27]; first | rfl | (simp [errW_none, errW_some] <;> rfl)) | (simp [*, errW_none, errW_some] <;> rfl), by repeat (first | (with_reducible first | exact HB.out | apply below_alloc | apply pw_below_drewN | apply below_drew1 | refine below_set ?_ GE186.out) | exact HB.out)⟩
             ·rw [if_neg c36] at H
              exact absurd H (by simp)
            ·rw [if_neg c35] at H
             exact absurd H (by simp)
           ·rw [if_neg c34] at H
            exact absurd H (by simp)
          ·rw [if_neg c31] at H
           exact absurd H (by simp)
         ·rw [if_neg c30] at H
          exact absurd H (by simp)
        ·rw [if_neg c29] at H
         exact absurd H (by simp)
       ·rw [if_neg c28] at H
        exact absurd H (by simp)

/-! ### cell_Flat: function 23: a contract of my own -/
end Go.Proofs.Ytbeloaccgmgocaa.Pr
