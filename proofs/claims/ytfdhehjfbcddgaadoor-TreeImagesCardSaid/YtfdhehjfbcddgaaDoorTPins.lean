/- rootcellarlaw14.TreePins. Conditions: the acts' numbers are numbers of Go; the tables of unicode/utf8 lie in memory. -/
import Derived.Test.YtfdhehjfbcddgaaDoorTNextP
import Derived.Test.YtfdhehjfbcddgaaDoorTShown
section
namespace Go.Proofs.YtfdhehjfbcddgaaDoor.Pr
open Go.RowKit Go.Proofs.YtfdhehjfbcddgaaDoorW.PrintWords Go.Proofs.YtfdhehjfbcddgaaDoorW.PrintLast Go.Proofs.YtfdhehjfbcddgaaDoor
set_option linter.unusedVariables false
def stp (a b : Int) : St := ⟨5, a, b, 0, ⟨#[]⟩⟩
def pinT (t : Tr) (a b : Int) : Tr := ⟨mapN t.l a (setPin b), t.lv, t.nx, t.nw⟩
theorem apply_pin {t : Tr} (h : RightP t) {x : Nd} (hx : x ∈ t.l) (h1 : x.id ≠ 1) (hg : x.ghost = false) {b : Int} (hb : 0 ≤ b) (hb1 : b ≤ 1) : applyN t (stp x.id b) = (pinT t x.id b, 0) := by
  have hst : stepB (stp x.id b) = true := (stepB_iff _).2 ⟨.inl rfl, by show (1 : Int) ≤ 5; decide, by show (5 : Int) ≤ 8; decide, by show 0 ≤ x.id; have := h.pos hx; omega, h.le_top hx, hb, by show b ≤ _; omega⟩
  unfold applyN
  rw [if_neg (by rw [(right_iff t).2 h, hst]; simp [stp])]
  rw [if_neg (by simp [stp]), if_neg (by simp [stp]), if_neg (by simp [stp]), if_neg (by simp [stp]), if_neg (by simp [stp]), if_neg (by simp [stp])]
  unfold changeN
  rw [show (stp x.id b).a = x.id from rfl, find_mem h.srt hx rfl, if_neg (by simp), if_neg h1, if_neg (by simp [stp, hg]), if_neg (by simp [stp]), if_neg (by simp [stp]), if_neg (by show ¬ 1 < b; omega), put_map h hx]
  rfl
/-- a step that changes a pin errs, where there is no such node -/
theorem pin_bad {t : Tr} (h : RightP t) (a : Int) (hb : (findN t.l a).2 = false ∨ (findN t.l a).1.ghost = true ∨ a = 1) : (applyN t (stp (max a 0) 1)).2 ≠ 0 := by
  have hrt := (right_iff t).2 h
  unfold applyN
  split
  · decide
  rw [if_neg (by simp [stp]), if_neg (by simp [stp]), if_neg (by simp [stp]), if_neg (by simp [stp]), if_neg (by simp [stp]), if_neg (by simp [stp])]
  unfold changeN
  rw [show (stp (max a 0) 1).a = max a 0 from rfl]
  split
  · decide
  rename_i hf
  have hf' : (findN t.l (max a 0)).2 = true := by cases hh : (findN t.l (max a 0)).2; exact absurd hh hf; rfl
  obtain ⟨x, hx, hxe⟩ := find_iff.1 hf'
  have hp := h.pos hx
  have ha : max a 0 = a := by omega
  rw [ha] at hf' hxe ⊢
  split
  · decide
  rename_i h1
  rcases hb with hb | hb | hb
  · rw [hb] at hf'; cases hf'
  · rw [if_pos (.inr ⟨by simp [stp], hb⟩)]; decide
  · exact absurd hb h1
theorem node_good {t : Tr} (h : RightP t) {x : Nd} (hx : x ∈ t.l) (hg : x.ghost = false) : nodeN t x.id = (x, 0) := by
  unfold nodeN
  rw [find_mem h.srt hx rfl, (right_iff t).2 h]
  simp [hg]
theorem delete_root {t : Tr} (h : RightP t) : deleteN t 1 = (zP, 13) := by
  obtain ⟨r, hr, e1, e2, e3⟩ := h.one
  have hn := node_good h hr e3
  rw [e1] at hn
  unfold deleteN
  rw [hn, if_pos rfl, if_pos rfl]
theorem delete_pinned {t : Tr} (h : RightP t) {x : Nd} (hx : x ∈ t.l) (h1 : x.id ≠ 1) (hg : x.ghost = false) (hp : x.pin = true) : deleteN t x.id = (zP, 12) := by
  unfold deleteN
  rw [node_good h hx hg, if_pos rfl, if_neg h1, if_pos hp]
theorem delete_fine {t : Tr} (h : RightP t) {x : Nd} (hx : x ∈ t.l) (h1 : x.id ≠ 1) (hg : x.ghost = false) (hp : x.pin = false) : (deleteN t x.id).2 = 0 := by
  unfold deleteN
  rw [node_good h hx hg, if_pos rfl, if_neg h1, if_neg (by simp [hp])]
  split
  · rfl
  split <;> rfl
theorem pin_mem {t : Tr} {x : Nd} (hx : x ∈ t.l) (b : Int) : setPin b x ∈ (pinT t x.id b).l := mem_mapN.2 ⟨x, hx, by rw [if_pos rfl]⟩
/-- all that the law TreePins asks of a node that may be pinned -/
theorem pins_good {t : Tr} (h : RightP t) {x : Nd} (hx : x ∈ t.l) (h1 : x.id ≠ 1) (hg : x.ghost = false) :
    applyN t (stp x.id 1) = (pinT t x.id 1, 0) ∧ deleteN (pinT t x.id 1) x.id = (zP, 12) ∧ findN (pinT t x.id 1).l x.id = (⟨x.id, x.par, x.name, x.time, false, true⟩, true) ∧
    applyN (pinT t x.id 1) (stp x.id 0) = (pinT (pinT t x.id 1) x.id 0, 0) ∧ (deleteN (pinT (pinT t x.id 1) x.id 0) x.id).2 = 0 := by
  have ha := apply_pin h hx h1 hg (b := 1) (by decide) (by decide)
  have hR := right_to ha
  have hm := pin_mem hx (t := t) 1
  have e : setPin 1 x = ⟨x.id, x.par, x.name, x.time, false, true⟩ := by unfold setPin; rw [hg]; rfl
  rw [e] at hm
  have hb := apply_pin hR hm h1 rfl (b := 0) (by decide) (by decide)
  have hR2 := right_to hb
  have hm2 := pin_mem hm (t := pinT t x.id 1) 0
  exact ⟨ha, delete_pinned (x := ⟨x.id, x.par, x.name, x.time, false, true⟩) hR hm h1 rfl rfl, find_mem hR.srt hm rfl, hb, delete_fine (x := ⟨x.id, x.par, x.name, x.time, false, false⟩) hR2 hm2 h1 rfl rfl⟩
end Go.Proofs.YtfdhehjfbcddgaaDoor.Pr
end
section
namespace Go.Proofs.YtfdhehjfbcddgaaDoor.Pr
open Go.RowKit Go.Proofs.YtfdhehjfbcddgaaDoorW.PrintWords Go.Proofs.YtfdhehjfbcddgaaDoorW.PrintLast Go.Proofs.YtfdhehjfbcddgaaDoor
set_option linter.unusedVariables false
theorem grown_small : ∀ (l : List Ac) (t : Tr), SmallT t → (∀ a ∈ l, a.name.size ≤ 1000000) → SmallT (l.foldl growN t) := by
  intro l
  induction l with
  | nil => intro t h _; exact h
  | cons a l ih => intro t h hn; exact ih _ (grow_small h (hn a (by simp))) (fun b hb => hn b (by simp [hb]))
theorem pin_small {t : Tr} (h : SmallT t) (a b : Int) : SmallT (pinT t a b) := by
  refine ⟨by unfold pinT mapN; rw [List.length_map]; exact h.1, fun x hx => ?_⟩
  obtain ⟨y, hy, rfl⟩ := mem_mapN.1 hx
  split
  · exact h.2 y hy
  · exact h.2 y hy
theorem map_len (l : List Nd) (a : Int) (f : Nd → Nd) : (mapN l a f).length = l.length := by unfold mapN; rw [List.length_map]
set_option maxRecDepth 100000 in
set_option maxHeartbeats 16000000 in
theorem pins_any (A : Option Addr) (cap : Nat) (l : List Ac) (a : Int) (w : World) (hl : l.length ≤ 9223372036854775807) (hr : ActsAt w A l) (hT : Tabs w) (hok : ∀ a ∈ l, AcOk a) (hnm : ∀ a ∈ l, a.name.size ≤ 9223372036854775807) :
    Calls Tryd.prog 5 #[.slice A l.length cap, .int .i64 a] w fun e w' => e = .returned (.bool true) ∧ Below w.heap.size w w' := by
  have HTT := Lib.hid hT
  have HSH := Lib.hid (shown_any w hT)
  have hri := fun (wx : World) (hb : Below w.heap.size w wx) => rightA_any A cap l wx hl (hr.below hb) hnm
  obtain ⟨R, hR⟩ : ∃ R, rightA l = R := ⟨_, rfl⟩
  rw [hR] at hri
  have HRI := Lib.hid hri
  have HRR := Lib.hid hR
  have HAR := Lib.hid hr
  have HOK := Lib.hid hok
  obtain ⟨n, hn⟩ : ∃ n, l.length = n := ⟨_, rfl⟩
  have HN0 := Lib.hid hn
  rw [hn] at HRI hl ⊢
  clear hT hr hok hnm hri hR hn
  go_enter Tryd.func5, Tryd.ntmps5
  go_wp2_with fail
  refine HSH.out.mono ?_
  rintro e w1 ⟨rfl, hb1⟩
  have HB1 := Lib.hid hb1
  have HRW := Lib.hid (HRI.out w1 hb1)
  clear hb1 HSH HRI
  go_wp2_with fail
  refine HRW.out.mono ?_
  rintro e w2 ⟨rfl, hb2⟩
  have HB := Lib.hid (HB1.out.trans (hb2.mono HB1.out.size))
  clear hb2 HB1 HRW
  cases R with
  | false =>
    go_wp2_with fail
    go_ret
    exact ⟨rfl, HB.out⟩
  | true =>
    have hri := HRR.out
    unfold rightA at hri
    rw [Bool.and_eq_true, decide_eq_true_eq, List.all_eq_true] at hri
    have hn60 : n ≤ 60 := by rw [← HN0.out]; exact hri.1
    have HNM := Lib.hid (show ∀ a ∈ l, a.name.size ≤ 1000000 from fun a ha => Nat.le_trans (by simpa using hri.2 a ha) (by decide))
    clear hri HRR
    obtain ⟨⟨l1, lv, nx, nw⟩, hG⟩ : ∃ G, grownN l = G := ⟨_, rfl⟩
    have hR1 : RightP ⟨l1, lv, nx, nw⟩ := by rw [← hG]; exact grown_right l newT new_right
    have hS1 : SmallT ⟨l1, lv, nx, nw⟩ := by rw [← hG]; exact grown_small l newT new_small HNM.out
    obtain ⟨n1, hn1⟩ : ∃ n1, l1.length = n1 := ⟨_, rfl⟩
    have hn60' : n1 ≤ 60 := by have h1 := hR1.len; dsimp only at h1; omega
    have HG := Lib.hid hG
    have HN1 := Lib.hid hn1
    have HR1 := Lib.hid hR1
    have HS1 := Lib.hid hS1
    clear hG hn1 hR1 hS1
    have HC := Lib.hid (grown_c (n := n) (n' := n1) (cap := cap) HG.out HN0.out HN1.out (by omega) (HAR.out.below HB.out) (HTT.out.below HB.out) HOK.out HNM.out)
    go_wp2_with fail
    refine HC.out.mono ?_
    rintro e wn1 ⟨A1, c1, rfl, hc1, hq1, hbn⟩
    clear HC
    have bel := HB.out.trans (hbn.mono HB.out.size)
    clear HB hbn
    have HB := Lib.hid bel
    clear bel
    have HR_N := Lib.hid hq1
    clear hq1
    obtain ⟨g_T, hg⟩ : ∃ g, g = wn1.heap.size := ⟨_, rfl⟩
    have bs_T : w.heap.size ≤ g_T := by have := HB.out.size; omega
    have HG := Lib.hid hg
    clear hg
    go_upto_region 6 with fail
    have hbx : Below wn1.heap.size wn1 (wn1.alloc (.cells #[.slice A1 n1 c1, .int .i64 lv, .int .i64 nx, .int .u64 nw] 28)) := (Below.refl _ _).alloc (Nat.le_refl _) _
    have hkx := Blk.new wn1 28 #[.slice A1 n1 c1, .int .i64 lv, .int .i64 nx, .int .u64 nw]
    rw [← HG.out] at hkx ⊢
    generalize (wn1.alloc (.cells #[.slice A1 n1 c1, .int .i64 lv, .int .i64 nx, .int .u64 nw] 28)) = wn2 at hbx hkx ⊢
    clear HG
    have r_N := HR_N.out.below hbx
    have bel := HB.out.trans (hbx.mono HB.out.size)
    clear HR_N HB hbx
    have HR_N := Lib.hid r_N
    have HB := Lib.hid bel
    clear r_N bel
    have HK_T := Lib.hid hkx
    clear hkx
    obtain ⟨⟨⟨x0, x1, x2, x3, x4, x5⟩, xb⟩, hfx⟩ : ∃ q, findN l1 a = q := ⟨_, rfl⟩
    have HFX := Lib.hid hfx
    clear hfx
    have c_T0 : wn2.cell? ⟨g_T, 0, none⟩ = some (.slice A1 n1 c1) := (HK_T.out.cell 0).trans rfl
    have c_T1 : wn2.cell? ⟨g_T, 1, none⟩ = some (.int .i64 lv) := (HK_T.out.cell 1).trans rfl
    have c_T2 : wn2.cell? ⟨g_T, 2, none⟩ = some (.int .i64 nx) := (HK_T.out.cell 2).trans rfl
    have c_T3 : wn2.cell? ⟨g_T, 3, none⟩ = some (.int .u64 nw) := (HK_T.out.cell 3).trans rfl
    have HC := Lib.hid (find_c (lv := lv) (nx := nx) (nw := nw) (cap := c1) HFX.out HN1.out (by omega) HR_N.out)
    go_wp2_with fail
    refine HC.out.mono ?_
    rintro e wn3 ⟨rfl, hbn⟩
    clear c_T0 c_T1 c_T2 c_T3 HC
    have k_T := HK_T.out.below hbn HK_T.out.lt
    have r_N := HR_N.out.below hbn
    have bel := HB.out.trans (hbn.mono HB.out.size)
    clear HK_T HR_N HB hbn
    have HK_T := Lib.hid k_T
    have HR_N := Lib.hid r_N
    have HB := Lib.hid bel
    clear k_T r_N bel
    obtain ⟨g_X, hg⟩ : ∃ g, g = wn3.heap.size := ⟨_, rfl⟩
    have lt_T_X : g_T < g_X := by have := HK_T.out.lt; omega
    have bs_X : w.heap.size ≤ g_X := by have := HB.out.size; omega
    have HG := Lib.hid hg
    clear hg
    go_upto_region 7 with fail
    have hbx : Below wn3.heap.size wn3 (wn3.alloc (.cells #[.int .i64 x0, .int .i64 x1, .string x2, .int .u64 x3, .bool x4, .bool x5] 42)) := (Below.refl _ _).alloc (Nat.le_refl _) _
    have hkx := Blk.new wn3 42 #[.int .i64 x0, .int .i64 x1, .string x2, .int .u64 x3, .bool x4, .bool x5]
    rw [← HG.out] at hkx ⊢
    generalize (wn3.alloc (.cells #[.int .i64 x0, .int .i64 x1, .string x2, .int .u64 x3, .bool x4, .bool x5] 42)) = wn4 at hbx hkx ⊢
    clear HG
    have k_T := HK_T.out.below hbx HK_T.out.lt
    have r_N := HR_N.out.below hbx
    have bel := HB.out.trans (hbx.mono HB.out.size)
    clear HK_T HR_N HB hbx
    have HK_T := Lib.hid k_T
    have HR_N := Lib.hid r_N
    have HB := Lib.hid bel
    clear k_T r_N bel
    have HK_X := Lib.hid hkx
    clear hkx
    obtain ⟨⟨⟨l2, lv2, nx2, nw2⟩, e2⟩, hap⟩ : ∃ q, applyN ⟨l1, lv, nx, nw⟩ (stp (max a 0) 1) = q := ⟨_, rfl⟩
    obtain ⟨n2, hn2⟩ : ∃ n2, l2.length = n2 := ⟨_, rfl⟩
    have HN2 := Lib.hid hn2
    have HAP := Lib.hid hap
    clear hn2 hap
    have c_T0 : wn4.cell? ⟨g_T, 0, none⟩ = some (.slice A1 n1 c1) := (HK_T.out.cell 0).trans rfl
    have c_T1 : wn4.cell? ⟨g_T, 1, none⟩ = some (.int .i64 lv) := (HK_T.out.cell 1).trans rfl
    have c_T2 : wn4.cell? ⟨g_T, 2, none⟩ = some (.int .i64 nx) := (HK_T.out.cell 2).trans rfl
    have c_T3 : wn4.cell? ⟨g_T, 3, none⟩ = some (.int .u64 nw) := (HK_T.out.cell 3).trans rfl
    have HC := Lib.hid (apply_c (kd := 5) (a := max a 0) (b := 1) (sn := 0) (tx := ⟨#[]⟩) HAP.out HN1.out HN2.out hc1 HR_N.out (HTT.out.below HB.out) HS1.out (by decide))
    go_wp2_with fail
    refine HC.out.mono ?_
    rintro e wn5 ⟨A2, c2, rfl, hc2, hq2, hbn⟩
    clear c_T0 c_T1 c_T2 c_T3 HC
    have k_T := HK_T.out.below hbn HK_T.out.lt
    have k_X := HK_X.out.below hbn HK_X.out.lt
    have r_N := HR_N.out.below hbn
    have bel := HB.out.trans (hbn.mono HB.out.size)
    clear HK_T HK_X HR_N HB hbn
    have HK_T := Lib.hid k_T
    have HK_X := Lib.hid k_X
    have HR_N := Lib.hid r_N
    have HB := Lib.hid bel
    clear k_T k_X r_N bel
    have HR_U := Lib.hid hq2
    clear hq2
    obtain ⟨g_U, hg⟩ : ∃ g, g = wn5.heap.size := ⟨_, rfl⟩
    have lt_T_U : g_T < g_U := by have := HK_T.out.lt; omega
    have lt_X_U : g_X < g_U := by have := HK_X.out.lt; omega
    have bs_U : w.heap.size ≤ g_U := by have := HB.out.size; omega
    have HG := Lib.hid hg
    clear hg
    go_upto_region 8 with fail
    have hbx : Below wn5.heap.size wn5 (wn5.alloc (.cells #[.slice A2 n2 c2, .int .i64 lv2, .int .i64 nx2, .int .u64 nw2] 28)) := (Below.refl _ _).alloc (Nat.le_refl _) _
    have hkx := Blk.new wn5 28 #[.slice A2 n2 c2, .int .i64 lv2, .int .i64 nx2, .int .u64 nw2]
    rw [← HG.out] at hkx ⊢
    generalize (wn5.alloc (.cells #[.slice A2 n2 c2, .int .i64 lv2, .int .i64 nx2, .int .u64 nw2] 28)) = wn6 at hbx hkx ⊢
    clear HG
    have k_T := HK_T.out.below hbx HK_T.out.lt
    have k_X := HK_X.out.below hbx HK_X.out.lt
    have r_N := HR_N.out.below hbx
    have r_U := HR_U.out.below hbx
    have bel := HB.out.trans (hbx.mono HB.out.size)
    clear HK_T HK_X HR_N HR_U HB hbx
    have HK_T := Lib.hid k_T
    have HK_X := Lib.hid k_X
    have HR_N := Lib.hid r_N
    have HR_U := Lib.hid r_U
    have HB := Lib.hid bel
    clear k_T k_X r_N r_U bel
    have HK_U := Lib.hid hkx
    clear hkx
    have hsplit : (xb = false ∨ (xb = true ∧ x4 = true) ∨ (xb = true ∧ x4 = false ∧ a = 1)) ∨ (xb = true ∧ x4 = false ∧ a ≠ 1) := by
      cases xb
      · exact .inl (.inl rfl)
      · cases x4
        · by_cases h : a = 1
          · exact .inl (.inr (.inr ⟨rfl, rfl, h⟩))
          · exact .inr ⟨rfl, rfl, h⟩
        · exact .inl (.inr (.inl ⟨rfl, rfl⟩))
    rcases hsplit with hb | ⟨rfl, rfl, hne⟩
    · have hbad : e2 ≠ 0 := by
        have h1 := pin_bad HR1.out a (by rw [show (Tr.l ⟨l1, lv, nx, nw⟩) = l1 from rfl, HFX.out]; rcases hb with h | ⟨_, h⟩ | ⟨_, _, h⟩; exact .inl h; exact .inr (.inl h); exact .inr (.inr h))
        rw [HAP.out] at h1
        exact h1
      have hnb : (e2 != 0) = true := by simp [hbad]
      have hdl := delete_root HR1.out
      have HDL := Lib.hid hdl
      clear hdl
      rcases hb with rfl | ⟨rfl, rfl⟩ | ⟨rfl, rfl, rfl⟩
      · have c_X4 : wn6.cell? ⟨g_X, 4, none⟩ = some (.bool x4) := (HK_X.out.cell 4).trans rfl
        go_upto_region 9 with fail
        clear c_X4
        have c_T0 : wn6.cell? ⟨g_T, 0, none⟩ = some (.slice A1 n1 c1) := (HK_T.out.cell 0).trans rfl
        have c_T1 : wn6.cell? ⟨g_T, 1, none⟩ = some (.int .i64 lv) := (HK_T.out.cell 1).trans rfl
        have c_T2 : wn6.cell? ⟨g_T, 2, none⟩ = some (.int .i64 nx) := (HK_T.out.cell 2).trans rfl
        have c_T3 : wn6.cell? ⟨g_T, 3, none⟩ = some (.int .u64 nw) := (HK_T.out.cell 3).trans rfl
        have HC := Lib.hid (del_c (a := 1) (n := n1) (km := 0) (ks := 0) HDL.out HN1.out rfl rfl hc1 HR_N.out (HTT.out.below HB.out) HS1.out)
        go_wp2_with fail
        refine HC.out.mono ?_
        rintro e wn7 ⟨M3, m3, S3, s3, rfl, hm3, hs3, hbn⟩
        clear c_T0 c_T1 c_T2 c_T3 HC
        have k_T := HK_T.out.below hbn HK_T.out.lt
        have k_X := HK_X.out.below hbn HK_X.out.lt
        have k_U := HK_U.out.below hbn HK_U.out.lt
        have r_N := HR_N.out.below hbn
        have r_U := HR_U.out.below hbn
        have bel := HB.out.trans (hbn.mono HB.out.size)
        clear HK_T HK_X HK_U HR_N HR_U HB hbn
        have HK_T := Lib.hid k_T
        have HK_X := Lib.hid k_X
        have HK_U := Lib.hid k_U
        have HR_N := Lib.hid r_N
        have HR_U := Lib.hid r_U
        have HB := Lib.hid bel
        clear k_T k_X k_U r_N r_U bel
        clear hm3 hs3
        go_wp2_with fail
        go_ret
        exact ⟨rfl, HB.out.trans (below_alloc (Below.refl _ _) _ |>.mono HB.out.size)⟩
      · have c_X4 : wn6.cell? ⟨g_X, 4, none⟩ = some (.bool true) := (HK_X.out.cell 4).trans rfl
        go_upto_region 9 with fail
        clear c_X4
        have c_T0 : wn6.cell? ⟨g_T, 0, none⟩ = some (.slice A1 n1 c1) := (HK_T.out.cell 0).trans rfl
        have c_T1 : wn6.cell? ⟨g_T, 1, none⟩ = some (.int .i64 lv) := (HK_T.out.cell 1).trans rfl
        have c_T2 : wn6.cell? ⟨g_T, 2, none⟩ = some (.int .i64 nx) := (HK_T.out.cell 2).trans rfl
        have c_T3 : wn6.cell? ⟨g_T, 3, none⟩ = some (.int .u64 nw) := (HK_T.out.cell 3).trans rfl
        have HC := Lib.hid (del_c (a := 1) (n := n1) (km := 0) (ks := 0) HDL.out HN1.out rfl rfl hc1 HR_N.out (HTT.out.below HB.out) HS1.out)
        go_wp2_with fail
        refine HC.out.mono ?_
        rintro e wn7 ⟨M3, m3, S3, s3, rfl, hm3, hs3, hbn⟩
        clear c_T0 c_T1 c_T2 c_T3 HC
        have k_T := HK_T.out.below hbn HK_T.out.lt
        have k_X := HK_X.out.below hbn HK_X.out.lt
        have k_U := HK_U.out.below hbn HK_U.out.lt
        have r_N := HR_N.out.below hbn
        have r_U := HR_U.out.below hbn
        have bel := HB.out.trans (hbn.mono HB.out.size)
        clear HK_T HK_X HK_U HR_N HR_U HB hbn
        have HK_T := Lib.hid k_T
        have HK_X := Lib.hid k_X
        have HK_U := Lib.hid k_U
        have HR_N := Lib.hid r_N
        have HR_U := Lib.hid r_U
        have HB := Lib.hid bel
        clear k_T k_X k_U r_N r_U bel
        clear hm3 hs3
        go_wp2_with fail
        go_ret
        exact ⟨rfl, HB.out.trans (below_alloc (Below.refl _ _) _ |>.mono HB.out.size)⟩
      · have c_X4 : wn6.cell? ⟨g_X, 4, none⟩ = some (.bool false) := (HK_X.out.cell 4).trans rfl
        go_upto_region 9 with fail
        clear c_X4
        have c_T0 : wn6.cell? ⟨g_T, 0, none⟩ = some (.slice A1 n1 c1) := (HK_T.out.cell 0).trans rfl
        have c_T1 : wn6.cell? ⟨g_T, 1, none⟩ = some (.int .i64 lv) := (HK_T.out.cell 1).trans rfl
        have c_T2 : wn6.cell? ⟨g_T, 2, none⟩ = some (.int .i64 nx) := (HK_T.out.cell 2).trans rfl
        have c_T3 : wn6.cell? ⟨g_T, 3, none⟩ = some (.int .u64 nw) := (HK_T.out.cell 3).trans rfl
        have HC := Lib.hid (del_c (a := 1) (n := n1) (km := 0) (ks := 0) HDL.out HN1.out rfl rfl hc1 HR_N.out (HTT.out.below HB.out) HS1.out)
        go_wp2_with fail
        refine HC.out.mono ?_
        rintro e wn7 ⟨M3, m3, S3, s3, rfl, hm3, hs3, hbn⟩
        clear c_T0 c_T1 c_T2 c_T3 HC
        have k_T := HK_T.out.below hbn HK_T.out.lt
        have k_X := HK_X.out.below hbn HK_X.out.lt
        have k_U := HK_U.out.below hbn HK_U.out.lt
        have r_N := HR_N.out.below hbn
        have r_U := HR_U.out.below hbn
        have bel := HB.out.trans (hbn.mono HB.out.size)
        clear HK_T HK_X HK_U HR_N HR_U HB hbn
        have HK_T := Lib.hid k_T
        have HK_X := Lib.hid k_X
        have HK_U := Lib.hid k_U
        have HR_N := Lib.hid r_N
        have HR_U := Lib.hid r_U
        have HB := Lib.hid bel
        clear k_T k_X k_U r_N r_U bel
        clear hm3 hs3
        go_wp2_with fail
        go_ret
        exact ⟨rfl, HB.out.trans (below_alloc (Below.refl _ _) _ |>.mono HB.out.size)⟩
    · have hm := find_some (find_iff.1 (show (findN l1 a).2 = true by rw [HFX.out]))
      rw [HFX.out] at hm
      obtain ⟨_, hm1, hm2⟩ := hm
      dsimp only at hm1 hm2
      subst hm2
      obtain ⟨g1, g2, g3, g4, g5⟩ := pins_good HR1.out hm1 hne rfl
      have hpos := HR1.out.pos hm1
      dsimp only at g1 g2 g3 g4 g5 hpos
      have hmx : max x0 0 = x0 := by omega
      have hap := HAP.out
      rw [hmx, g1] at hap
      injection hap with hap1 hap2
      subst hap2
      have hpt : (⟨l2, lv2, nx2, nw2⟩ : Tr) = pinT ⟨l1, lv, nx, nw⟩ x0 1 := hap1.symm
      rw [← hpt] at g2 g3 g4 g5
      have hS2 : SmallT ⟨l2, lv2, nx2, nw2⟩ := by rw [hpt]; exact pin_small HS1.out _ _
      have HS2 := Lib.hid hS2
      have hn2' : n2 ≤ 60 := by
        have h1 : l2.length = l1.length := by rw [show l2 = (Tr.l ⟨l2, lv2, nx2, nw2⟩) from rfl, hpt]; exact map_len _ _ _
        have h2 := HN1.out
        have h3 := HN2.out
        omega
      obtain ⟨⟨l3, lv3, nx3, nw3⟩, hv⟩ : ∃ V, pinT ⟨l2, lv2, nx2, nw2⟩ x0 0 = V := ⟨_, rfl⟩
      rw [hv] at g4 g5
      have hS3 : SmallT ⟨l3, lv3, nx3, nw3⟩ := by rw [← hv]; exact pin_small hS2 _ _
      have HS3 := Lib.hid hS3
      obtain ⟨n3, hn3⟩ : ∃ n3, l3.length = n3 := ⟨_, rfl⟩
      obtain ⟨⟨⟨pm, ps⟩, pe⟩, hQ⟩ : ∃ Q, deleteN ⟨l3, lv3, nx3, nw3⟩ x0 = Q := ⟨_, rfl⟩
      rw [hQ] at g5
      dsimp only at g5
      subst g5
      obtain ⟨km, hkm⟩ : ∃ km, pm.length = km := ⟨_, rfl⟩
      obtain ⟨ks, hks⟩ : ∃ ks, ps.length = ks := ⟨_, rfl⟩
      have HKM := Lib.hid hkm
      have HKS := Lib.hid hks
      have HQ := Lib.hid hQ
      have HN3 := Lib.hid hn3
      have G2 := Lib.hid g2
      have G3 := Lib.hid g3
      have G4 := Lib.hid g4
      have hself : (x2.toList == x2.toList) = true := by simp
      have hneb : (x0 == 1) = false := by rw [beq_eq_false_iff_ne]; exact hne
      clear hap1 hpt hS2 hS3 hkm hks hQ hn3 g1 g2 g3 g4 hv hm1 hpos hmx
      have c_X4 : wn6.cell? ⟨g_X, 4, none⟩ = some (.bool false) := (HK_X.out.cell 4).trans rfl
      go_upto_region 11 with fail
      clear c_X4
      have c_U0 : wn6.cell? ⟨g_U, 0, none⟩ = some (.slice A2 n2 c2) := (HK_U.out.cell 0).trans rfl
      have c_U1 : wn6.cell? ⟨g_U, 1, none⟩ = some (.int .i64 lv2) := (HK_U.out.cell 1).trans rfl
      have c_U2 : wn6.cell? ⟨g_U, 2, none⟩ = some (.int .i64 nx2) := (HK_U.out.cell 2).trans rfl
      have c_U3 : wn6.cell? ⟨g_U, 3, none⟩ = some (.int .u64 nw2) := (HK_U.out.cell 3).trans rfl
      have HC := Lib.hid (del_c (a := x0) (n := n2) (km := 0) (ks := 0) G2.out HN2.out rfl rfl hc2 HR_U.out (HTT.out.below HB.out) HS2.out)
      go_wp2_with fail
      refine HC.out.mono ?_
      rintro e wn7 ⟨M3, m3, S3, s3, rfl, hm3, hs3, hbn⟩
      clear c_U0 c_U1 c_U2 c_U3 HC
      have k_T := HK_T.out.below hbn HK_T.out.lt
      have k_X := HK_X.out.below hbn HK_X.out.lt
      have k_U := HK_U.out.below hbn HK_U.out.lt
      have r_N := HR_N.out.below hbn
      have r_U := HR_U.out.below hbn
      have bel := HB.out.trans (hbn.mono HB.out.size)
      clear HK_T HK_X HK_U HR_N HR_U HB hbn
      have HK_T := Lib.hid k_T
      have HK_X := Lib.hid k_X
      have HK_U := Lib.hid k_U
      have HR_N := Lib.hid r_N
      have HR_U := Lib.hid r_U
      have HB := Lib.hid bel
      clear k_T k_X k_U r_N r_U bel
      clear hm3 hs3
      obtain ⟨g_P, hg⟩ : ∃ g, g = wn7.heap.size := ⟨_, rfl⟩
      have lt_T_P : g_T < g_P := by have := HK_T.out.lt; omega
      have lt_X_P : g_X < g_P := by have := HK_X.out.lt; omega
      have lt_U_P : g_U < g_P := by have := HK_U.out.lt; omega
      have bs_P : w.heap.size ≤ g_P := by have := HB.out.size; omega
      have HG := Lib.hid hg
      clear hg
      go_upto_region 12 with fail
      have hbx : Below wn7.heap.size wn7 (wn7.alloc (.cells #[.slice M3 0 m3, .slice S3 0 s3] 33)) := (Below.refl _ _).alloc (Nat.le_refl _) _
      have hkx := Blk.new wn7 33 #[.slice M3 0 m3, .slice S3 0 s3]
      rw [← HG.out] at hkx ⊢
      generalize (wn7.alloc (.cells #[.slice M3 0 m3, .slice S3 0 s3] 33)) = wn8 at hbx hkx ⊢
      clear HG
      have k_T := HK_T.out.below hbx HK_T.out.lt
      have k_X := HK_X.out.below hbx HK_X.out.lt
      have k_U := HK_U.out.below hbx HK_U.out.lt
      have r_N := HR_N.out.below hbx
      have r_U := HR_U.out.below hbx
      have bel := HB.out.trans (hbx.mono HB.out.size)
      clear HK_T HK_X HK_U HR_N HR_U HB hbx
      have HK_T := Lib.hid k_T
      have HK_X := Lib.hid k_X
      have HK_U := Lib.hid k_U
      have HR_N := Lib.hid r_N
      have HR_U := Lib.hid r_U
      have HB := Lib.hid bel
      clear k_T k_X k_U r_N r_U bel
      have HK_P := Lib.hid hkx
      clear hkx
      have c_U0 : wn8.cell? ⟨g_U, 0, none⟩ = some (.slice A2 n2 c2) := (HK_U.out.cell 0).trans rfl
      have c_U1 : wn8.cell? ⟨g_U, 1, none⟩ = some (.int .i64 lv2) := (HK_U.out.cell 1).trans rfl
      have c_U2 : wn8.cell? ⟨g_U, 2, none⟩ = some (.int .i64 nx2) := (HK_U.out.cell 2).trans rfl
      have c_U3 : wn8.cell? ⟨g_U, 3, none⟩ = some (.int .u64 nw2) := (HK_U.out.cell 3).trans rfl
      have HC := Lib.hid (find_c (lv := lv2) (nx := nx2) (nw := nw2) (cap := c2) (n := n2) G3.out HN2.out (by omega) HR_U.out)
      go_wp2_with fail
      refine HC.out.mono ?_
      rintro e wn9 ⟨rfl, hbn⟩
      clear c_U0 c_U1 c_U2 c_U3 HC
      have k_T := HK_T.out.below hbn HK_T.out.lt
      have k_X := HK_X.out.below hbn HK_X.out.lt
      have k_U := HK_U.out.below hbn HK_U.out.lt
      have k_P := HK_P.out.below hbn HK_P.out.lt
      have r_N := HR_N.out.below hbn
      have r_U := HR_U.out.below hbn
      have bel := HB.out.trans (hbn.mono HB.out.size)
      clear HK_T HK_X HK_U HK_P HR_N HR_U HB hbn
      have HK_T := Lib.hid k_T
      have HK_X := Lib.hid k_X
      have HK_U := Lib.hid k_U
      have HK_P := Lib.hid k_P
      have HR_N := Lib.hid r_N
      have HR_U := Lib.hid r_U
      have HB := Lib.hid bel
      clear k_T k_X k_U k_P r_N r_U bel
      obtain ⟨g_Y, hg⟩ : ∃ g, g = wn9.heap.size := ⟨_, rfl⟩
      have lt_T_Y : g_T < g_Y := by have := HK_T.out.lt; omega
      have lt_X_Y : g_X < g_Y := by have := HK_X.out.lt; omega
      have lt_U_Y : g_U < g_Y := by have := HK_U.out.lt; omega
      have lt_P_Y : g_P < g_Y := by have := HK_P.out.lt; omega
      have bs_Y : w.heap.size ≤ g_Y := by have := HB.out.size; omega
      have HG := Lib.hid hg
      clear hg
      go_upto_region 13 with fail
      have hbx : Below wn9.heap.size wn9 (wn9.alloc (.cells #[.int .i64 x0, .int .i64 x1, .string x2, .int .u64 x3, .bool false, .bool true] 42)) := (Below.refl _ _).alloc (Nat.le_refl _) _
      have hkx := Blk.new wn9 42 #[.int .i64 x0, .int .i64 x1, .string x2, .int .u64 x3, .bool false, .bool true]
      rw [← HG.out] at hkx ⊢
      generalize (wn9.alloc (.cells #[.int .i64 x0, .int .i64 x1, .string x2, .int .u64 x3, .bool false, .bool true] 42)) = wn10 at hbx hkx ⊢
      clear HG
      have k_T := HK_T.out.below hbx HK_T.out.lt
      have k_X := HK_X.out.below hbx HK_X.out.lt
      have k_U := HK_U.out.below hbx HK_U.out.lt
      have k_P := HK_P.out.below hbx HK_P.out.lt
      have r_N := HR_N.out.below hbx
      have r_U := HR_U.out.below hbx
      have bel := HB.out.trans (hbx.mono HB.out.size)
      clear HK_T HK_X HK_U HK_P HR_N HR_U HB hbx
      have HK_T := Lib.hid k_T
      have HK_X := Lib.hid k_X
      have HK_U := Lib.hid k_U
      have HK_P := Lib.hid k_P
      have HR_N := Lib.hid r_N
      have HR_U := Lib.hid r_U
      have HB := Lib.hid bel
      clear k_T k_X k_U k_P r_N r_U bel
      have HK_Y := Lib.hid hkx
      clear hkx
      have c_U0 : wn10.cell? ⟨g_U, 0, none⟩ = some (.slice A2 n2 c2) := (HK_U.out.cell 0).trans rfl
      have c_U1 : wn10.cell? ⟨g_U, 1, none⟩ = some (.int .i64 lv2) := (HK_U.out.cell 1).trans rfl
      have c_U2 : wn10.cell? ⟨g_U, 2, none⟩ = some (.int .i64 nx2) := (HK_U.out.cell 2).trans rfl
      have c_U3 : wn10.cell? ⟨g_U, 3, none⟩ = some (.int .u64 nw2) := (HK_U.out.cell 3).trans rfl
      have HC := Lib.hid (apply_c (kd := 5) (a := x0) (b := 0) (sn := 0) (tx := ⟨#[]⟩) G4.out HN2.out HN3.out hc2 HR_U.out (HTT.out.below HB.out) HS2.out (by decide))
      go_wp2_with fail
      refine HC.out.mono ?_
      rintro e wn11 ⟨A3, c3, rfl, hc3, hq3, hbn⟩
      clear c_U0 c_U1 c_U2 c_U3 HC
      have k_T := HK_T.out.below hbn HK_T.out.lt
      have k_X := HK_X.out.below hbn HK_X.out.lt
      have k_U := HK_U.out.below hbn HK_U.out.lt
      have k_P := HK_P.out.below hbn HK_P.out.lt
      have k_Y := HK_Y.out.below hbn HK_Y.out.lt
      have r_N := HR_N.out.below hbn
      have r_U := HR_U.out.below hbn
      have bel := HB.out.trans (hbn.mono HB.out.size)
      clear HK_T HK_X HK_U HK_P HK_Y HR_N HR_U HB hbn
      have HK_T := Lib.hid k_T
      have HK_X := Lib.hid k_X
      have HK_U := Lib.hid k_U
      have HK_P := Lib.hid k_P
      have HK_Y := Lib.hid k_Y
      have HR_N := Lib.hid r_N
      have HR_U := Lib.hid r_U
      have HB := Lib.hid bel
      clear k_T k_X k_U k_P k_Y r_N r_U bel
      have HR_V := Lib.hid hq3
      clear hq3
      obtain ⟨g_V, hg⟩ : ∃ g, g = wn11.heap.size := ⟨_, rfl⟩
      have lt_T_V : g_T < g_V := by have := HK_T.out.lt; omega
      have lt_X_V : g_X < g_V := by have := HK_X.out.lt; omega
      have lt_U_V : g_U < g_V := by have := HK_U.out.lt; omega
      have lt_P_V : g_P < g_V := by have := HK_P.out.lt; omega
      have lt_Y_V : g_Y < g_V := by have := HK_Y.out.lt; omega
      have bs_V : w.heap.size ≤ g_V := by have := HB.out.size; omega
      have HG := Lib.hid hg
      clear hg
      go_upto_region 14 with fail
      have hbx : Below wn11.heap.size wn11 (wn11.alloc (.cells #[.slice A3 n3 c3, .int .i64 lv3, .int .i64 nx3, .int .u64 nw3] 28)) := (Below.refl _ _).alloc (Nat.le_refl _) _
      have hkx := Blk.new wn11 28 #[.slice A3 n3 c3, .int .i64 lv3, .int .i64 nx3, .int .u64 nw3]
      rw [← HG.out] at hkx ⊢
      generalize (wn11.alloc (.cells #[.slice A3 n3 c3, .int .i64 lv3, .int .i64 nx3, .int .u64 nw3] 28)) = wn12 at hbx hkx ⊢
      clear HG
      have k_T := HK_T.out.below hbx HK_T.out.lt
      have k_X := HK_X.out.below hbx HK_X.out.lt
      have k_U := HK_U.out.below hbx HK_U.out.lt
      have k_P := HK_P.out.below hbx HK_P.out.lt
      have k_Y := HK_Y.out.below hbx HK_Y.out.lt
      have r_N := HR_N.out.below hbx
      have r_U := HR_U.out.below hbx
      have r_V := HR_V.out.below hbx
      have bel := HB.out.trans (hbx.mono HB.out.size)
      clear HK_T HK_X HK_U HK_P HK_Y HR_N HR_U HR_V HB hbx
      have HK_T := Lib.hid k_T
      have HK_X := Lib.hid k_X
      have HK_U := Lib.hid k_U
      have HK_P := Lib.hid k_P
      have HK_Y := Lib.hid k_Y
      have HR_N := Lib.hid r_N
      have HR_U := Lib.hid r_U
      have HR_V := Lib.hid r_V
      have HB := Lib.hid bel
      clear k_T k_X k_U k_P k_Y r_N r_U r_V bel
      have HK_V := Lib.hid hkx
      clear hkx
      have c_V0 : wn12.cell? ⟨g_V, 0, none⟩ = some (.slice A3 n3 c3) := (HK_V.out.cell 0).trans rfl
      have c_V1 : wn12.cell? ⟨g_V, 1, none⟩ = some (.int .i64 lv3) := (HK_V.out.cell 1).trans rfl
      have c_V2 : wn12.cell? ⟨g_V, 2, none⟩ = some (.int .i64 nx3) := (HK_V.out.cell 2).trans rfl
      have c_V3 : wn12.cell? ⟨g_V, 3, none⟩ = some (.int .u64 nw3) := (HK_V.out.cell 3).trans rfl
      have HC := Lib.hid (del_c (a := x0) (n := n3) (km := km) (ks := ks) HQ.out HN3.out HKM.out HKS.out hc3 HR_V.out (HTT.out.below HB.out) HS3.out)
      go_wp2_with fail
      refine HC.out.mono ?_
      rintro e wn13 ⟨M4, m4, S4, s4, rfl, hm4, hs4, hbn⟩
      clear c_V0 c_V1 c_V2 c_V3 HC
      have k_T := HK_T.out.below hbn HK_T.out.lt
      have k_X := HK_X.out.below hbn HK_X.out.lt
      have k_U := HK_U.out.below hbn HK_U.out.lt
      have k_P := HK_P.out.below hbn HK_P.out.lt
      have k_Y := HK_Y.out.below hbn HK_Y.out.lt
      have k_V := HK_V.out.below hbn HK_V.out.lt
      have r_N := HR_N.out.below hbn
      have r_U := HR_U.out.below hbn
      have r_V := HR_V.out.below hbn
      have bel := HB.out.trans (hbn.mono HB.out.size)
      clear HK_T HK_X HK_U HK_P HK_Y HK_V HR_N HR_U HR_V HB hbn
      have HK_T := Lib.hid k_T
      have HK_X := Lib.hid k_X
      have HK_U := Lib.hid k_U
      have HK_P := Lib.hid k_P
      have HK_Y := Lib.hid k_Y
      have HK_V := Lib.hid k_V
      have HR_N := Lib.hid r_N
      have HR_U := Lib.hid r_U
      have HR_V := Lib.hid r_V
      have HB := Lib.hid bel
      clear k_T k_X k_U k_P k_Y k_V r_N r_U r_V bel
      clear hm4 hs4
      obtain ⟨g_Q, hg⟩ : ∃ g, g = wn13.heap.size := ⟨_, rfl⟩
      have lt_T_Q : g_T < g_Q := by have := HK_T.out.lt; omega
      have lt_X_Q : g_X < g_Q := by have := HK_X.out.lt; omega
      have lt_U_Q : g_U < g_Q := by have := HK_U.out.lt; omega
      have lt_P_Q : g_P < g_Q := by have := HK_P.out.lt; omega
      have lt_Y_Q : g_Y < g_Q := by have := HK_Y.out.lt; omega
      have lt_V_Q : g_V < g_Q := by have := HK_V.out.lt; omega
      have bs_Q : w.heap.size ≤ g_Q := by have := HB.out.size; omega
      have HG := Lib.hid hg
      clear hg
      go_upto_region 15 with fail
      have hbx : Below wn13.heap.size wn13 (wn13.alloc (.cells #[.slice M4 km m4, .slice S4 ks s4] 33)) := (Below.refl _ _).alloc (Nat.le_refl _) _
      have hkx := Blk.new wn13 33 #[.slice M4 km m4, .slice S4 ks s4]
      rw [← HG.out] at hkx ⊢
      generalize (wn13.alloc (.cells #[.slice M4 km m4, .slice S4 ks s4] 33)) = wn14 at hbx hkx ⊢
      clear HG
      have k_T := HK_T.out.below hbx HK_T.out.lt
      have k_X := HK_X.out.below hbx HK_X.out.lt
      have k_U := HK_U.out.below hbx HK_U.out.lt
      have k_P := HK_P.out.below hbx HK_P.out.lt
      have k_Y := HK_Y.out.below hbx HK_Y.out.lt
      have k_V := HK_V.out.below hbx HK_V.out.lt
      have r_N := HR_N.out.below hbx
      have r_U := HR_U.out.below hbx
      have r_V := HR_V.out.below hbx
      have bel := HB.out.trans (hbx.mono HB.out.size)
      clear HK_T HK_X HK_U HK_P HK_Y HK_V HR_N HR_U HR_V HB hbx
      have HK_T := Lib.hid k_T
      have HK_X := Lib.hid k_X
      have HK_U := Lib.hid k_U
      have HK_P := Lib.hid k_P
      have HK_Y := Lib.hid k_Y
      have HK_V := Lib.hid k_V
      have HR_N := Lib.hid r_N
      have HR_U := Lib.hid r_U
      have HR_V := Lib.hid r_V
      have HB := Lib.hid bel
      clear k_T k_X k_U k_P k_Y k_V r_N r_U r_V bel
      have HK_Q := Lib.hid hkx
      clear hkx
      have c_X0 : wn14.cell? ⟨g_X, 0, none⟩ = some (.int .i64 x0) := (HK_X.out.cell 0).trans rfl
      have c_X1 : wn14.cell? ⟨g_X, 1, none⟩ = some (.int .i64 x1) := (HK_X.out.cell 1).trans rfl
      have c_X2 : wn14.cell? ⟨g_X, 2, none⟩ = some (.string x2) := (HK_X.out.cell 2).trans rfl
      have c_X3 : wn14.cell? ⟨g_X, 3, none⟩ = some (.int .u64 x3) := (HK_X.out.cell 3).trans rfl
      have c_X4 : wn14.cell? ⟨g_X, 4, none⟩ = some (.bool false) := (HK_X.out.cell 4).trans rfl
      have c_X5 : wn14.cell? ⟨g_X, 5, none⟩ = some (.bool x5) := (HK_X.out.cell 5).trans rfl
      have c_Y0 : wn14.cell? ⟨g_Y, 0, none⟩ = some (.int .i64 x0) := (HK_Y.out.cell 0).trans rfl
      have c_Y1 : wn14.cell? ⟨g_Y, 1, none⟩ = some (.int .i64 x1) := (HK_Y.out.cell 1).trans rfl
      have c_Y2 : wn14.cell? ⟨g_Y, 2, none⟩ = some (.string x2) := (HK_Y.out.cell 2).trans rfl
      have c_Y3 : wn14.cell? ⟨g_Y, 3, none⟩ = some (.int .u64 x3) := (HK_Y.out.cell 3).trans rfl
      have c_Y4 : wn14.cell? ⟨g_Y, 4, none⟩ = some (.bool false) := (HK_Y.out.cell 4).trans rfl
      have c_Y5 : wn14.cell? ⟨g_Y, 5, none⟩ = some (.bool true) := (HK_Y.out.cell 5).trans rfl
      go_wp2_with fail
      go_ret
      exact ⟨rfl, HB.out⟩
end Go.Proofs.YtfdhehjfbcddgaaDoor.Pr
end
