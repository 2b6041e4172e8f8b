-- Printed by a program of this session (wip/pr/hook.py) by way of the kit's printer; contracts of my own beside it.
import Derived.Test.YtbeloaccgmgocaaPrx0
namespace Go.Proofs.Ytbeloaccgmgocaa.Pr
open Go.RowKit Go.Proofs.YtbeloaccgmgocaaW.PrintWords Go.Proofs.YtbeloaccgmgocaaW.PrintLast Go.Proofs.YtbeloaccgmgocaaW.PrintMore
attribute [local go_sem] max2_int min2_int max_two min_two max_three min_three max_four min_four   -- for this text's walks alone
set_option linter.unusedVariables false
set_option linter.unusedSimpArgs false

/-! ### chain_Fold: function 14: a contract of my own -/
/-! ### cell_Put: function 19: a contract of my own -/
/-! ### rootcellarlaw11_cluster: function 20 -/
def rootcellarlaw11_cluster.l0 : Nat → Int → List Int → Int → Option (ByteArray)
 | 0, _, _, _ => none
 | k + 1, x0, x3, x4 => if x4 < 8 then (if 0 ≤ (wrap64 (8 * x4)) then (if 0 ≤ x4 then (if x4 < (x3.length : Int) then (rootcellarlaw11_cluster.l0 k x0 (x3.set (x4 : Int).toNat ((shr .i64 x0 (wrap64 (8 * x4))) % 256)) (wrap64 (x4 + 1))) else (none)) else (none)) else (none)) else (if 15 < (x3.length : Int) then (some (strOfNums (x3.set (15 : Int).toNat 1))) else (none))
def rootcellarlaw11_cluster.f (k : Nat) (a0 : Int) : Option (ByteArray) := if 16 ≤ 281474976710656 then ((some (List.replicate 16 0 : List Int)).bind fun y146 => (if (Int.tmod a0 5) = 0 then (some (strOfNums y146)) else (rootcellarlaw11_cluster.l0 k a0 y146 0))) else (none)
theorem rootcellarlaw11_cluster.mono_l : ∀ k, (∀ y0 y1 y2, LeO (rootcellarlaw11_cluster.l0 k y0 y1 y2) (rootcellarlaw11_cluster.l0 (k + 1) y0 y1 y2))
 | 0 => fun _ _ _ r h => by simp [rootcellarlaw11_cluster.l0] at h
 | k + 1 => by
  have ih0 := rootcellarlaw11_cluster.mono_l k
  ·intro y0 y1 y2
   unfold rootcellarlaw11_cluster.l0
   repeat' first
   | (with_reducible exact ih0 _ _ _)
   | (with_reducible exact LeO.refl _)
   | (with_reducible exact LeO.none _)
   | (with_reducible refine LeO.ite ?_ ?_)
   | (with_reducible refine LeO.bind ?_ (fun _ => ?_))
   | exact ih0 _ _ _
   | exact LeO.none _
   | refine LeO.ite ?_ ?_
   | refine LeO.bind ?_ (fun _ => ?_)
theorem rootcellarlaw11_cluster.mono : ∀ a0 k, LeO (rootcellarlaw11_cluster.f k a0) (rootcellarlaw11_cluster.f (k + 1) a0) := by
 intro a0 k
 have ih0 := rootcellarlaw11_cluster.mono_l k
 unfold rootcellarlaw11_cluster.f
 repeat' first
   | (with_reducible exact ih0 _ _ _)
   | (with_reducible exact LeO.refl _)
   | (with_reducible exact LeO.none _)
   | (with_reducible refine LeO.ite ?_ ?_)
   | (with_reducible refine LeO.bind ?_ (fun _ => ?_))
   | exact ih0 _ _ _
   | exact LeO.none _
   | refine LeO.ite ?_ ?_
   | refine LeO.bind ?_ (fun _ => ?_)
set_option maxHeartbeats 8000000 in
set_option maxRecDepth 100000 in
theorem rootcellarlaw11_cluster.calls (k : Nat) (a0 : Int) (r : ByteArray) (w : World) (h : rootcellarlaw11_cluster.f k a0 = some r) :
  Calls Try.prog 20 #[.int .i64 a0] w fun e w' => e = .returned (.string r) ∧ Below w.heap.size w w' := by
 have HB := Aside0.mk (Below.refl w.heap.size w)
 have H : (if 16 ≤ 281474976710656 then ((some (List.replicate 16 0 : List Int)).bind fun y146 => (if (Int.tmod a0 5) = 0 then (some (strOfNums y146)) else (rootcellarlaw11_cluster.l0 k a0 y146 0))) else (none)) = some r := h
 clear h
 by_cases c2 : 16 ≤ 281474976710656
 ·rw [if_pos c2] at H
  have c2b0 := eq_true c2
  have c2b1 : decide (16 ≤ 281474976710656) = true := decide_eq_true c2
  clear c2
  obtain ⟨y146, hy146⟩ : ∃ y_ : List Int, y_ = (List.replicate 16 0) := ⟨_, rfl⟩
  replace H : (if (Int.tmod a0 5) = 0 then (some (strOfNums y146)) else (rootcellarlaw11_cluster.l0 k a0 y146 0)) = some r := by first | (rw [hy146]; with_reducible exact H) | (have H2_ := (Option.bind_some _ _).symm.trans H; rw [hy146]; with_reducible exact H2_) | (have H2_ := (Option.bind_some _ _).symm.trans H; with_reducible exact H2_) | with_reducible exact H | (rw [hy146]; exact H) | exact H
  have Ny146 := Aside0.mk hy146
  clear hy146
  by_cases c3 : (Int.tmod a0 5) = 0
  ·rw [if_pos c3] at H
   have c3b0 : ((Int.tmod a0 5) == 0) = true := beq_iff_eq.mpr c3
   have c3b1 : ((Int.tmod a0 5) != 0) = false := bne_eq_false_iff_eq.mpr c3
   clear c3
   obtain rfl := Option.some.inj H
   go_enter Try.func20, Try.ntmps20
   go_wp2_with (first | ((with_reducible refine gate_dst (N := 5) rfl ?_); refine Kd.R_make (Kd.int .u8) _ 5 rfl (N := 5) rfl 70 _ _ rfl 16 rfl rfl Try.underlying70 (.int .u8 0) 1 info5 rfl (by decide) (by omega) 0 (ok := fun _ => True) (okp := fun _ => True) rfl (fun _ hk => hk) trivial (by omega) (by omega) (Below.refl _ _) (Nat.le_refl _) ?_; intro v147 w4 ho5 hb hg_ hnew_; clear hg_ hnew_; (first | rw [← Ny146.out] at ho5 | (simp only [Int.reduceToNat] at ho5; rw [← Ny146.out] at ho5)); have n0_ := Aside0.mk (Kd.R_lower ho5 (below_size (by repeat (first | (with_reducible first | exact HB.out | apply below_alloc | apply pw_below_drewN | apply below_drew1) | exact HB.out)))); have n1_ := Aside0.mk (below_step (by repeat (first | (with_reducible first | exact HB.out | apply below_alloc | apply pw_below_drewN | apply below_drew1) | exact HB.out)) hb); clear HB; have HO148 := n0_; have HB := n1_; clear n0_ n1_; clear hb ho5; have hcv6 := own_string (P := Try.prog) Try.underlying70 Try.underlying5 Try.underlying9 (Kd.own_of_R HO148.out)))
   go_ret
   exact ⟨by first | rfl | (simp [errW_none, errW_some] <;> rfl) | (simp [*, errW_none, errW_some] <;> rfl), by repeat (first | (with_reducible first | exact HB.out | apply below_alloc | apply pw_below_drewN | apply below_drew1) | exact HB.out)⟩
  ·rw [if_neg c3] at H
   have c3b0 : ((Int.tmod a0 5) == 0) = false := beq_eq_false_iff_ne.mpr c3
   have c3b1 : ((Int.tmod a0 5) != 0) = true := bne_iff_ne.mpr c3
   have H' := Aside0.mk H
   clear H
   go_enter Try.func20, Try.ntmps20
   go_wp2_with (first | ((with_reducible refine gate_dst (N := 5) rfl ?_); refine Kd.R_make (Kd.int .u8) _ 5 rfl (N := 5) rfl 70 _ _ rfl 16 rfl rfl Try.underlying70 (.int .u8 0) 1 info5 rfl (by decide) (by omega) 0 (ok := fun _ => True) (okp := fun _ => True) rfl (fun _ hk => hk) trivial (by omega) (by omega) (Below.refl _ _) (Nat.le_refl _) ?_; intro v147 w7 ho8 hb hg_ hnew_; clear hg_ hnew_; (first | rw [← Ny146.out] at ho8 | (simp only [Int.reduceToNat] at ho8; rw [← Ny146.out] at ho8)); have n0_ := Aside0.mk (Kd.R_lower ho8 (below_size (by repeat (first | (with_reducible first | exact HB.out | apply below_alloc | apply pw_below_drewN | apply below_drew1) | exact HB.out)))); have n1_ := Aside0.mk (below_step (by repeat (first | (with_reducible first | exact HB.out | apply below_alloc | apply pw_below_drewN | apply below_drew1) | exact HB.out)) hb); clear HB; have HO148 := n0_; have HB := n1_; clear n0_ n1_; clear hb ho8))
   go_loopg [4] k (fun kq v4 w' => ∃ (x3_1 : List Int) (x4_1 : Int), v4 = .int .i64 x4_1 ∧ Aside0 (rootcellarlaw11_cluster.l0 kq a0 x3_1 x4_1 = some r) ∧ Aside0 (kq ≤ k) ∧ Aside0 (Kd.R (Kd.int .u8) 5 w' w.heap.size (fun _ => True) v147 x3_1) ∧ Aside0 (Below w.heap.size w w'))
   case atStart => exact ⟨(y146), (0), (by first | rfl | (simp; done) | (simp [*]; done)), H', ⟨Nat.le_refl _⟩, ⟨by (with_reducible repeat (first | apply Kd.R_alloc | apply Kd.R_drewN | apply Kd.R_drew)); exact HO148.out⟩, ⟨by repeat (first | (with_reducible first | exact HB.out | apply below_alloc | apply pw_below_drewN | apply below_drew1) | exact HB.out)⟩⟩
   case round =>
    clear H'
    try clear c2
    try clear c2b0
    try clear c2b1
    try clear p2
    try clear c3
    try clear c3b0
    try clear c3b1
    try clear hcv6
    obtain ⟨x3_1, x4_1, rfl, HA, HK1, HO_3, HB⟩ := hrel
    cases gk with
    | zero => exact absurd HA.out (by simp [rootcellarlaw11_cluster.l0])
    | succ k1 =>
     have H := HA.out
     clear HA
     simp only [rootcellarlaw11_cluster.l0] at H
     by_cases c9 : x4_1 < 8
     ·rw [if_pos c9] at H
      have c9b0 : decide (x4_1 < 8) = true := decide_eq_true c9
      clear c9
      obtain ⟨ji10, hji10⟩ : ∃ j_ : Int, (wrap64 (8 * x4_1)) = j_ := ⟨_, rfl⟩
      replace H : (if 0 ≤ (ji10) then (if 0 ≤ x4_1 then (if x4_1 < (x3_1.length : Int) then (rootcellarlaw11_cluster.l0 k1 a0 (x3_1.set (x4_1 : Int).toNat ((shr .i64 a0 (ji10)) % 256)) (wrap64 (x4_1 + 1))) else (none)) else (none)) else (none)) = some r := by first | (rw [hji10] at H; exact H) | (simp only [hji10] at H ⊢; exact H)
      have hji10w : (IntKind.i64.wrap (8 * x4_1)) = ji10 := (i64_w _).trans hji10
      by_cases c11 : 0 ≤ (ji10)
      ·rw [if_pos c11] at H
       have c11b0 := eq_true c11
       have c11b1 : decide (0 ≤ (ji10)) = true := decide_eq_true c11
       clear c11
       obtain ⟨ji12, hji12⟩ : ∃ j_ : Int, (shr .i64 a0 (ji10)) = j_ := ⟨_, rfl⟩
       replace H : (if 0 ≤ x4_1 then (if x4_1 < (x3_1.length : Int) then (rootcellarlaw11_cluster.l0 k1 a0 (x3_1.set (x4_1 : Int).toNat ((ji12) % 256)) (wrap64 (x4_1 + 1))) else (none)) else (none)) = some r := by first | (rw [hji12] at H; exact H) | (simp only [hji12] at H ⊢; exact H)
       have hji12_ : (a0 / 2 ^ min (ji10).toNat 64) = ji12 := hji12
       have hji12z : (ji10) ≤ 64 → (a0 / 2 ^ (ji10).toNat) = ji12 := shr_small hji12
       by_cases c13 : 0 ≤ x4_1
       ·rw [if_pos c13] at H
        have c13b0 : decide (0 ≤ x4_1) = true := decide_eq_true c13
        clear c13
        by_cases c14 : x4_1 < (x3_1.length : Int)
        ·rw [if_pos c14] at H
         have c14b0 : decide (x4_1 < (x3_1.length : Int)) = true := decide_eq_true c14
         clear c14
         obtain ⟨y149, hy149⟩ : ∃ y_ : List Int, y_ = (x3_1.set (x4_1 : Int).toNat ((ji12) % 256)) := ⟨_, rfl⟩
         replace H : (rootcellarlaw11_cluster.l0 k1 a0 y149 (wrap64 (x4_1 + 1))) = some r := by first | (rw [hy149]; with_reducible exact H) | (have H2_ := (Option.bind_some _ _).symm.trans H; rw [hy149]; with_reducible exact H2_) | (have H2_ := (Option.bind_some _ _).symm.trans H; with_reducible exact H2_) | with_reducible exact H | (rw [hy149]; exact H) | exact H
         have Ny149 := Aside0.mk hy149
         clear hy149
         have H' := Aside0.mk H
         clear H
         have p15 : 0 ≤ (x4_1 : Int) := of_decide_eq_true (by first | (with_reducible assumption) | assumption)
         have q15 : (x4_1 : Int) < ((x3_1.length : Int) : Int) := of_decide_eq_true (by first | (with_reducible assumption) | assumption)
         obtain ⟨go15, co15, eo15, gb15, gl15, cl15, HG15⟩ := Kd.R_form HO_3.out (by omega)
         (first | cases eo15 | (injection eo15 with ea_ en_ ec_; (first | subst ea_ | (injection ea_ with ea_; subst ea_)); subst ec_; clear en_))
         have GB15 := Aside0.mk gb15
         have GG15 := Aside0.mk HG15
         clear gb15 gl15 HG15
         obtain ⟨hx15_0, hf15_0⟩ := Kd.R_celln 0 HO_3.out (x4_1 : Int) p15 q15
         replace p15 := eq_true p15
         replace q15 := eq_true q15
         have HP16 := Kd.R_putg HO_3.out (x4_1 : Int) ((ji12) % 256)
         go_wp2_with (first | ((with_reducible refine gate_store (t := 5) (p := 20) rfl ?_); refine store_event (t := 5) (p := 20) (v := ?vo_w17) (w1 := (wr.setCell ⟨go15, (x4_1 : Int).toNat, none⟩ (.int .u8 ((ji12) % 256)))) ?hg ?ho ?hn ?hr ?_; (case ho => rfl); (case hg => rfl); (case hn => rfl); (case hr => first | (go_simp; done) | (go_simp; rfl)); intro w17 hw; have hg : wr.grownBy w17 (some go15) := (by rw [hw]; exact HP16.2); have hp_ : Kd.R (Kd.int .u8) 5 w17 w.heap.size (fun _ => True) (.slice (some ⟨go15, 0, none⟩) x3_1.length co15) y149 := (by rw [hw, Ny149.out]; exact HP16.1); clear HP16; have n0_ := Aside0.mk (hp_); have n1_ := Aside0.mk ((by rw [hw]; exact below_set (HB.out) GB15.out : Below w.heap.size w w17)); clear HO_3; clear HB; have HO_3 := n0_; have HB := n1_; clear n0_ n1_; clear hg hw hp_))
         go_roundg k1
         case measure => have := HK1.out; omega
         case rel => exact ⟨(y149), (wrap64 (x4_1 + 1)), (by first | rfl | (simp; done) | (simp [*]; done)), H', ⟨by have := HK1.out; omega⟩, ⟨by (with_reducible repeat (first | apply Kd.R_alloc | apply Kd.R_drewN | apply Kd.R_drew)); exact HO_3.out⟩, ⟨by repeat (first | (with_reducible first | exact HB.out | apply below_alloc | apply pw_below_drewN | apply below_drew1) | exact HB.out)⟩⟩
        ·rw [if_neg c14] at H
         exact absurd H (by simp)
       ·rw [if_neg c13] at H
        exact absurd H (by simp)
      ·rw [if_neg c11] at H
       exact absurd H (by simp)
     ·rw [if_neg c9] at H
      have c9b0 : decide (x4_1 < 8) = false := decide_eq_false c9
      clear c9
      by_cases c18 : 15 < (x3_1.length : Int)
      ·rw [if_pos c18] at H
       have c18b0 : decide (15 < (x3_1.length : Int)) = true := decide_eq_true c18
       have c18b1 : decide (15 < x3_1.length) = true := decide_eq_true (by omega)
       clear c18
       obtain ⟨y150, hy150⟩ : ∃ y_ : List Int, y_ = (x3_1.set (15 : Int).toNat 1) := ⟨_, rfl⟩
       replace H : (some (strOfNums y150)) = some r := by first | (rw [hy150]; with_reducible exact H) | (have H2_ := (Option.bind_some _ _).symm.trans H; rw [hy150]; with_reducible exact H2_) | (have H2_ := (Option.bind_some _ _).symm.trans H; with_reducible exact H2_) | with_reducible exact H | (rw [hy150]; exact H) | exact H
       have Ny150 := Aside0.mk hy150
       clear hy150
       obtain rfl := Option.some.inj H
       have p19 : 0 ≤ (15 : Int) := (by omega)
       have q19 : (15 : Int) < ((x3_1.length : Int) : Int) := of_decide_eq_true (by first | (with_reducible assumption) | assumption)
       have qi19 : (15 < x3_1.length) = True := eq_true (by omega)
       obtain ⟨go19, co19, eo19, gb19, gl19, cl19, HG19⟩ := Kd.R_form HO_3.out (by omega)
       (first | cases eo19 | (injection eo19 with ea_ en_ ec_; (first | subst ea_ | (injection ea_ with ea_; subst ea_)); subst ec_; clear en_))
       have GB19 := Aside0.mk gb19
       have GG19 := Aside0.mk HG19
       clear gb19 gl19 HG19
       obtain ⟨hx19_0, hf19_0⟩ := Kd.R_celln 0 HO_3.out (15 : Int) p19 q19
       (try rw [show ((15 : Int)).toNat = 15 from rfl] at hx19_0)
       (try simp only [Nat.reduceMul, Nat.zero_mul, Nat.zero_add, Nat.reduceAdd] at hx19_0)
       (try rw [show ((15 : Int)).toNat = 15 from rfl] at hf19_0)
       (try simp only [Nat.reduceMul, Nat.zero_mul, Nat.zero_add, Nat.reduceAdd] at hf19_0)
       replace p19 := eq_true p19
       replace q19 := eq_true q19
       have HP20 := Kd.R_putg HO_3.out (15 : Int) 1
       go_wp2_with (first | ((with_reducible refine gate_store (t := 5) (p := 22) rfl ?_); refine store_event (t := 5) (p := 22) (v := ?vo_w21) (w1 := (wr.setCell ⟨go19, (15 : Int).toNat, none⟩ (.int .u8 1))) ?hg ?ho ?hn ?hr ?_; (case ho => rfl); (case hg => rfl); (case hn => rfl); (case hr => first | (go_simp; done) | (go_simp; rfl)); intro w21 hw; have hg : wr.grownBy w21 (some go19) := (by rw [hw]; exact HP20.2); have hp_ : Kd.R (Kd.int .u8) 5 w21 w.heap.size (fun _ => True) (.slice (some ⟨go19, 0, none⟩) x3_1.length co19) y150 := (by rw [hw, Ny150.out]; exact HP20.1); clear HP20; have n0_ := Aside0.mk (hp_); have n1_ := Aside0.mk ((by rw [hw]; exact below_set (HB.out) GB19.out : Below w.heap.size w w21)); clear HO_3; clear HB; have HO_3 := n0_; have HB := n1_; clear n0_ n1_; clear hg hw hp_; have hcv22 := own_string (P := Try.prog) Try.underlying70 Try.underlying5 Try.underlying9 (Kd.own_of_R HO_3.out)))
       go_ret
       exact ⟨by first | rfl | (simp [errW_none, errW_some] <;> rfl) | (simp [*, errW_none, errW_some] <;> rfl), by repeat (first | (with_reducible first | exact HB.out | apply below_alloc | apply pw_below_drewN | apply below_drew1) | exact HB.out)⟩
      ·rw [if_neg c18] at H
       exact absurd H (by simp)
 ·rw [if_neg c2] at H
  exact absurd H (by simp)

end Go.Proofs.Ytbeloaccgmgocaa.Pr
