/- rootcellarlaw14.TreePlans. Conditions: the acts' numbers are numbers of Go; the tables of unicode/utf8 lie in memory. -/
import Derived.Test.YtfdhehjfbcddgaaDoorTPins
import Derived.Test.YtfdhehjfbcddgaaDoorTPlansP
import Derived.Deep.LoopGhost
import Derived.Deep.CutRange
import Derived.BigQuiet
import Derived.WalkSmall
namespace Go.Proofs.YtfdhehjfbcddgaaDoor.Pr
open Go.RowKit Go.Proofs.YtfdhehjfbcddgaaDoorW.PrintWords Go.Proofs.YtfdhehjfbcddgaaDoorW.PrintLast Go.Proofs.YtfdhehjfbcddgaaDoor
set_option linter.unusedVariables false
theorem acts_one (w : World) (a : Ac) : ActsAt (w.alloc (.cells #[.int .i64 a.op, .int .i64 a.id, .int .i64 a.n, .string a.name] 38)) (some ⟨w.heap.size, 0, none⟩) [a] := by
  intro _
  have hb := Blk.new w 38 #[.int .i64 a.op, .int .i64 a.id, .int .i64 a.n, .string a.name]
  refine ⟨w.heap.size, 0, rfl, hb.lt, fun j u hu => ?_⟩
  rw [Nat.zero_add, hb.cell j, ← Array.getElem?_toList]
  exact hu
set_option maxRecDepth 100000 in
set_option maxHeartbeats 16000000 in
theorem plans_any (A : Option Addr) (cap : Nat) (l : List Ac) (a0 a1 a2 : Int) (a3 : ByteArray) (w : World) (hl : l.length ≤ 9223372036854775807) (hr : ActsAt w A l) (hT : Tabs w) (hok : ∀ a ∈ l, AcOk a) (hnm : ∀ a ∈ l, a.name.size ≤ 9223372036854775807) (hak : AcOk ⟨a0, a1, a2, a3⟩) (haz : a3.size ≤ 9223372036854775807) :
    Calls Tryd.prog 7 #[.slice A l.length cap, .agg #[.int .i64 a0, .int .i64 a1, .int .i64 a2, .string a3]] w fun e w' => e = .returned (.bool true) ∧ Below w.heap.size w w' := by
  have HTT := Lib.hid hT
  have hri := fun (wx : World) (hb : Below w.heap.size w wx) => rightA_any A cap l wx hl (hr.below hb) hnm
  obtain ⟨R, hR⟩ : ∃ R, rightA l = R := ⟨_, rfl⟩
  rw [hR] at hri
  have HRI := Lib.hid hri
  have HRR := Lib.hid hR
  have HAR := Lib.hid hr
  have HOK := Lib.hid hok
  obtain ⟨n, hn⟩ : ∃ n, l.length = n := ⟨_, rfl⟩
  have HN0 := Lib.hid hn
  rw [hn] at HRI hl ⊢
  obtain ⟨R2, hR2⟩ : ∃ R2, rightA [⟨a0, a1, a2, a3⟩] = R2 := ⟨_, rfl⟩
  have HR2 := Lib.hid hR2
  have hri2 := fun (wx : World) => rightA_any (some ⟨wx.heap.size, 0, none⟩) 1 [⟨a0, a1, a2, a3⟩] (wx.alloc (.cells #[.int .i64 a0, .int .i64 a1, .int .i64 a2, .string a3] 38)) (by show (1 : Nat) ≤ _; decide) (acts_one wx ⟨a0, a1, a2, a3⟩) (fun x hx => by rw [List.mem_singleton] at hx; subst hx; exact haz)
  rw [hR2] at hri2
  have HRI2 := Lib.hid hri2
  have HAK := Lib.hid hak
  have HAZ := Lib.hid haz
  have hbel : Below w.heap.size w (w.alloc (.cells #[.int .i64 a0, .int .i64 a1, .int .i64 a2, .string a3] 38)) := (Below.refl _ _).alloc (Nat.le_refl _) _
  have hkA := Blk.new w 38 #[.int .i64 a0, .int .i64 a1, .int .i64 a2, .string a3]
  obtain ⟨g_A, hg⟩ : ∃ g, g = w.heap.size := ⟨_, rfl⟩
  have bs_A : w.heap.size ≤ g_A := by omega
  rw [← hg] at hkA
  have HGA := Lib.hid hg
  clear hT hr hok hnm hri hR hn hR2 hri2 hak haz hg
  go_enter Tryd.func7, Tryd.ntmps7
  go_upto_region 1 with fail
  rw [← HGA.out]
  generalize (w.alloc (.cells #[.int .i64 a0, .int .i64 a1, .int .i64 a2, .string a3] 38)) = w0 at hbel hkA ⊢
  have HB := Lib.hid hbel
  have HK_A := Lib.hid hkA
  clear hbel hkA HGA
  have HSH := Lib.hid (shown_any w0 (HTT.out.below HB.out))
  go_wp2_with fail
  refine HSH.out.mono ?_
  rintro e w1 ⟨rfl, hbn⟩
  clear HSH
  have k_A := HK_A.out.below hbn HK_A.out.lt
  have bel := HB.out.trans (hbn.mono HB.out.size)
  clear HK_A HB hbn
  have HK_A := Lib.hid k_A
  have HB := Lib.hid bel
  clear k_A bel
  have HRW := Lib.hid (HRI.out w1 HB.out)
  clear HRI
  go_wp2_with fail
  refine HRW.out.mono ?_
  rintro e w2 ⟨rfl, hbn⟩
  clear HRW
  have k_A := HK_A.out.below hbn HK_A.out.lt
  have bel := HB.out.trans (hbn.mono HB.out.size)
  clear HK_A HB hbn
  have HK_A := Lib.hid k_A
  have HB := Lib.hid bel
  clear k_A bel
  have c_A0 : w2.cell? ⟨g_A, 0, none⟩ = some (.int .i64 a0) := (HK_A.out.cell 0).trans rfl
  have c_A1 : w2.cell? ⟨g_A, 1, none⟩ = some (.int .i64 a1) := (HK_A.out.cell 1).trans rfl
  have c_A2 : w2.cell? ⟨g_A, 2, none⟩ = some (.int .i64 a2) := (HK_A.out.cell 2).trans rfl
  have c_A3 : w2.cell? ⟨g_A, 3, none⟩ = some (.string a3) := (HK_A.out.cell 3).trans rfl
  have HRW := Lib.hid (HRI2.out w2)
  clear HRI2
  go_wp2_with fail
  refine HRW.out.mono ?_
  rintro e w3 ⟨rfl, hbn⟩
  clear HRW c_A0 c_A1 c_A2 c_A3
  have hbl : Below w2.heap.size w2 w3 := (below_alloc (Below.refl _ _) _).trans (hbn.mono (by simp))
  have k_A := HK_A.out.below hbl HK_A.out.lt
  have bel := HB.out.trans (hbl.mono HB.out.size)
  clear HK_A HB hbn hbl
  have HK_A := Lib.hid k_A
  have HB := Lib.hid bel
  clear k_A bel
  cases R with
  | false =>
    go_wp2_with fail
    go_ret
    exact ⟨rfl, HB.out⟩
  | true =>
  cases R2 with
  | false =>
    go_wp2_with fail
    go_ret
    exact ⟨rfl, HB.out⟩
  | true =>
    have hri := HRR.out
    unfold rightA at hri
    rw [Bool.and_eq_true, decide_eq_true_eq, List.all_eq_true] at hri
    have hn60 : n ≤ 60 := by rw [← HN0.out]; exact hri.1
    have HNM := Lib.hid (show ∀ a ∈ l, a.name.size ≤ 1000000 from fun a ha => Nat.le_trans (by simpa using hri.2 a ha) (by decide))
    have hri2 := HR2.out
    unfold rightA at hri2
    rw [Bool.and_eq_true, decide_eq_true_eq, List.all_eq_true] at hri2
    have ha120 : a3.size ≤ 1000000 := by
      have := hri2.2 ⟨a0, a1, a2, a3⟩ (by simp)
      have h2 : a3.size ≤ 120 := by simpa using this
      omega
    clear hri hri2 HRR HR2
    obtain ⟨⟨l1, lv, nx, nw⟩, hG⟩ : ∃ G, grownN l = G := ⟨_, rfl⟩
    have hR1 : RightP ⟨l1, lv, nx, nw⟩ := by rw [← hG]; exact grown_right l newT new_right
    have hS1 : SmallT ⟨l1, lv, nx, nw⟩ := by rw [← hG]; exact grown_small l newT new_small HNM.out
    obtain ⟨n1, hn1⟩ : ∃ n1, l1.length = n1 := ⟨_, rfl⟩
    have hn60' : n1 ≤ 60 := by have h1 := hR1.len; dsimp only at h1; omega
    have HG := Lib.hid hG
    have HN1 := Lib.hid hn1
    have HR1 := Lib.hid hR1
    have HS1 := Lib.hid hS1
    clear hG hn1 hR1 hS1
    have HC := Lib.hid (grown_c (n := n) (n' := n1) (cap := cap) HG.out HN0.out HN1.out (by omega) (HAR.out.below HB.out) (HTT.out.below HB.out) HOK.out HNM.out)
    go_wp2_with fail
    refine HC.out.mono ?_
    rintro e wn1 ⟨A1, c1, rfl, hc1, hq1, hbn⟩
    clear HC
    have k_A := HK_A.out.below hbn HK_A.out.lt
    have bel := HB.out.trans (hbn.mono HB.out.size)
    clear HK_A HB hbn
    have HK_A := Lib.hid k_A
    have HB := Lib.hid bel
    clear k_A bel
    have HR_N := Lib.hid hq1
    clear hq1
    obtain ⟨g_T, hg⟩ : ∃ g, g = wn1.heap.size := ⟨_, rfl⟩
    have lt_A_T : g_A < g_T := by have := HK_A.out.lt; omega
    have bs_T : w.heap.size ≤ g_T := by have := HB.out.size; omega
    have HG := Lib.hid hg
    clear hg
    go_upto_region 7 with fail
    have hbx : Below wn1.heap.size wn1 (wn1.alloc (.cells #[.slice A1 n1 c1, .int .i64 lv, .int .i64 nx, .int .u64 nw] 28)) := (Below.refl _ _).alloc (Nat.le_refl _) _
    have hkx := Blk.new wn1 28 #[.slice A1 n1 c1, .int .i64 lv, .int .i64 nx, .int .u64 nw]
    rw [← HG.out] at hkx ⊢
    generalize (wn1.alloc (.cells #[.slice A1 n1 c1, .int .i64 lv, .int .i64 nx, .int .u64 nw] 28)) = wn2 at hbx hkx ⊢
    clear HG
    have k_A := HK_A.out.below hbx HK_A.out.lt
    have r_N := HR_N.out.below hbx
    have bel := HB.out.trans (hbx.mono HB.out.size)
    clear HK_A HR_N HB hbx
    have HK_A := Lib.hid k_A
    have HR_N := Lib.hid r_N
    have HB := Lib.hid bel
    clear k_A r_N bel
    have HK_T := Lib.hid hkx
    clear hkx
    obtain ⟨hP0, hP1⟩ := pickN_range a0 12 (by decide)
    obtain ⟨P, hPP⟩ : ∃ P, pickN a0 12 = P := ⟨_, rfl⟩
    rw [hPP] at hP0 hP1
    have HPP := Lib.hid hPP
    clear hPP
    have c_A0 : wn2.cell? ⟨g_A, 0, none⟩ = some (.int .i64 a0) := (HK_A.out.cell 0).trans rfl
    have hpk := pick_any a0 12 wn2 HAK.out.1 (by decide) (by decide)
    rw [HPP.out] at hpk
    have HPK := Lib.hid hpk
    clear hpk
    go_wp2_with fail
    refine HPK.out.mono ?_
    rintro e w' ⟨rfl, rfl⟩
    clear HPK
    go_upto_region 8 with fail
    clear c_A0
    obtain ⟨⟨⟨pm, ps⟩, pe⟩, hQ⟩ : ∃ Q, planN ⟨l1, lv, nx, nw⟩ ⟨a0, a1, a2, a3⟩ = Q := ⟨_, rfl⟩
    have hpo := plan_ok ⟨l1, lv, nx, nw⟩ ⟨a0, a1, a2, a3⟩ ha120
    have hbad := plan_bad (t := ⟨l1, lv, nx, nw⟩) (a := ⟨a0, a1, a2, a3⟩)
    have hfine := plan_fine (a := ⟨a0, a1, a2, a3⟩) HR1.out
    have hdr := done_right ps ⟨l1, lv, nx, nw⟩ HR1.out
    rw [hQ] at hpo hbad hfine
    rw [HPP.out] at hfine
    dsimp only at hpo hbad hfine hdr
    obtain ⟨⟨⟨l2, lv2, nx2, nw2⟩, qe⟩, hD⟩ : ∃ D, doneN ⟨l1, lv, nx, nw⟩ ps = D := ⟨_, rfl⟩
    have hsm := done_small ps ⟨l1, lv, nx, nw⟩ HS1.out hpo.2
    rw [hD] at hsm hfine hdr
    dsimp only at hsm hfine hdr
    obtain ⟨km, hkm⟩ : ∃ km, pm.length = km := ⟨_, rfl⟩
    obtain ⟨ks, hks⟩ : ∃ ks, ps.length = ks := ⟨_, rfl⟩
    obtain ⟨n2, hn2⟩ : ∃ n2, l2.length = n2 := ⟨_, rfl⟩
    have hksl : ks ≤ 1099511627776 := by rw [← hks]; exact hpo.1
    have hn60u : n2 ≤ 60 := by have h1 := hdr.1.len; dsimp only at h1; omega
    have hrtu := (right_iff _).2 hdr.1
    have HQ := Lib.hid hQ
    have HPO := Lib.hid hpo
    have HBA := Lib.hid hbad
    have HFI := Lib.hid hfine
    have HD := Lib.hid hD
    have HSU := Lib.hid hsm
    have HKM := Lib.hid hkm
    have HKS := Lib.hid hks
    have HN2 := Lib.hid hn2
    have HRU := Lib.hid hdr.1
    have HRT := Lib.hid hrtu
    clear hQ hpo hbad hfine hdr hD hsm hkm hks hn2 hrtu
    have c_T0 : w'.cell? ⟨g_T, 0, none⟩ = some (.slice A1 n1 c1) := (HK_T.out.cell 0).trans rfl
    have c_T1 : w'.cell? ⟨g_T, 1, none⟩ = some (.int .i64 lv) := (HK_T.out.cell 1).trans rfl
    have c_T2 : w'.cell? ⟨g_T, 2, none⟩ = some (.int .i64 nx) := (HK_T.out.cell 2).trans rfl
    have c_T3 : w'.cell? ⟨g_T, 3, none⟩ = some (.int .u64 nw) := (HK_T.out.cell 3).trans rfl
    have c_A0 : w'.cell? ⟨g_A, 0, none⟩ = some (.int .i64 a0) := (HK_A.out.cell 0).trans rfl
    have c_A1 : w'.cell? ⟨g_A, 1, none⟩ = some (.int .i64 a1) := (HK_A.out.cell 1).trans rfl
    have c_A2 : w'.cell? ⟨g_A, 2, none⟩ = some (.int .i64 a2) := (HK_A.out.cell 2).trans rfl
    have c_A3 : w'.cell? ⟨g_A, 3, none⟩ = some (.string a3) := (HK_A.out.cell 3).trans rfl
    have HC := Lib.hid (plan_c (n := n1) (km := km) (ks := ks) HQ.out HN1.out HKM.out HKS.out hc1 HR_N.out (HTT.out.below HB.out) HS1.out HAK.out.1 HAK.out.2.2 ha120)
    go_wp2_with fail
    refine HC.out.mono ?_
    rintro e wn3 ⟨M1, m1, S1, s1, rfl, hm1, hs1, hbn⟩
    clear c_T0 c_T1 c_T2 c_T3 c_A0 c_A1 c_A2 c_A3 HC
    have k_A := HK_A.out.below hbn HK_A.out.lt
    have k_T := HK_T.out.below hbn HK_T.out.lt
    have r_N := HR_N.out.below hbn
    have bel := HB.out.trans (hbn.mono HB.out.size)
    clear HK_A HK_T HR_N HB hbn
    have HK_A := Lib.hid k_A
    have HK_T := Lib.hid k_T
    have HR_N := Lib.hid r_N
    have HB := Lib.hid bel
    clear k_A k_T r_N bel
    have HR_S := Lib.hid hs1
    clear hs1
    clear hm1
    obtain ⟨g_P, hg⟩ : ∃ g, g = wn3.heap.size := ⟨_, rfl⟩
    have lt_A_P : g_A < g_P := by have := HK_A.out.lt; omega
    have lt_T_P : g_T < g_P := by have := HK_T.out.lt; omega
    have bs_P : w.heap.size ≤ g_P := by have := HB.out.size; omega
    have HG := Lib.hid hg
    clear hg
    go_upto_region 9 with fail
    have hbx : Below wn3.heap.size wn3 (wn3.alloc (.cells #[.slice M1 km m1, .slice S1 ks s1] 33)) := (Below.refl _ _).alloc (Nat.le_refl _) _
    have hkx := Blk.new wn3 33 #[.slice M1 km m1, .slice S1 ks s1]
    rw [← HG.out] at hkx ⊢
    generalize (wn3.alloc (.cells #[.slice M1 km m1, .slice S1 ks s1] 33)) = wn4 at hbx hkx ⊢
    clear HG
    have k_A := HK_A.out.below hbx HK_A.out.lt
    have k_T := HK_T.out.below hbx HK_T.out.lt
    have r_N := HR_N.out.below hbx
    have r_S := HR_S.out.below hbx
    have bel := HB.out.trans (hbx.mono HB.out.size)
    clear HK_A HK_T HR_N HR_S HB hbx
    have HK_A := Lib.hid k_A
    have HK_T := Lib.hid k_T
    have HR_N := Lib.hid r_N
    have HR_S := Lib.hid r_S
    have HB := Lib.hid bel
    clear k_A k_T r_N r_S bel
    have HK_P := Lib.hid hkx
    clear hkx
    have c_T0 : wn4.cell? ⟨g_T, 0, none⟩ = some (.slice A1 n1 c1) := (HK_T.out.cell 0).trans rfl
    have c_T1 : wn4.cell? ⟨g_T, 1, none⟩ = some (.int .i64 lv) := (HK_T.out.cell 1).trans rfl
    have c_T2 : wn4.cell? ⟨g_T, 2, none⟩ = some (.int .i64 nx) := (HK_T.out.cell 2).trans rfl
    have c_T3 : wn4.cell? ⟨g_T, 3, none⟩ = some (.int .u64 nw) := (HK_T.out.cell 3).trans rfl
    have c_P0 : wn4.cell? ⟨g_P, 0, none⟩ = some (.slice M1 km m1) := (HK_P.out.cell 0).trans rfl
    have c_P1 : wn4.cell? ⟨g_P, 1, none⟩ = some (.slice S1 ks s1) := (HK_P.out.cell 1).trans rfl
    have HC := Lib.hid (done_c (n := n1) (n' := n2) (ks := ks) (sc := s1) (km := km) (mc := m1) (MA := M1) HD.out HN1.out HN2.out HKS.out hc1 HR_N.out (HTT.out.below HB.out) HS1.out HR_S.out hksl HPO.out.2)
    go_wp2_with fail
    refine HC.out.mono ?_
    rintro e wn5 ⟨A2, c2, rfl, hc2, hq2, hbn⟩
    clear c_T0 c_T1 c_T2 c_T3 c_P0 c_P1 HC
    have k_A := HK_A.out.below hbn HK_A.out.lt
    have k_T := HK_T.out.below hbn HK_T.out.lt
    have k_P := HK_P.out.below hbn HK_P.out.lt
    have r_N := HR_N.out.below hbn
    have r_S := HR_S.out.below hbn
    have bel := HB.out.trans (hbn.mono HB.out.size)
    clear HK_A HK_T HK_P HR_N HR_S HB hbn
    have HK_A := Lib.hid k_A
    have HK_T := Lib.hid k_T
    have HK_P := Lib.hid k_P
    have HR_N := Lib.hid r_N
    have HR_S := Lib.hid r_S
    have HB := Lib.hid bel
    clear k_A k_T k_P r_N r_S bel
    have HR_U := Lib.hid hq2
    clear hq2
    obtain ⟨g_U, hg⟩ : ∃ g, g = wn5.heap.size := ⟨_, rfl⟩
    have lt_A_U : g_A < g_U := by have := HK_A.out.lt; omega
    have lt_T_U : g_T < g_U := by have := HK_T.out.lt; omega
    have lt_P_U : g_P < g_U := by have := HK_P.out.lt; omega
    have bs_U : w.heap.size ≤ g_U := by have := HB.out.size; omega
    have HG := Lib.hid hg
    clear hg
    go_upto_region 10 with fail
    have hbx : Below wn5.heap.size wn5 (wn5.alloc (.cells #[.slice A2 n2 c2, .int .i64 lv2, .int .i64 nx2, .int .u64 nw2] 28)) := (Below.refl _ _).alloc (Nat.le_refl _) _
    have hkx := Blk.new wn5 28 #[.slice A2 n2 c2, .int .i64 lv2, .int .i64 nx2, .int .u64 nw2]
    rw [← HG.out] at hkx ⊢
    generalize (wn5.alloc (.cells #[.slice A2 n2 c2, .int .i64 lv2, .int .i64 nx2, .int .u64 nw2] 28)) = wn6 at hbx hkx ⊢
    clear HG
    have k_A := HK_A.out.below hbx HK_A.out.lt
    have k_T := HK_T.out.below hbx HK_T.out.lt
    have k_P := HK_P.out.below hbx HK_P.out.lt
    have r_N := HR_N.out.below hbx
    have r_S := HR_S.out.below hbx
    have r_U := HR_U.out.below hbx
    have bel := HB.out.trans (hbx.mono HB.out.size)
    clear HK_A HK_T HK_P HR_N HR_S HR_U HB hbx
    have HK_A := Lib.hid k_A
    have HK_T := Lib.hid k_T
    have HK_P := Lib.hid k_P
    have HR_N := Lib.hid r_N
    have HR_S := Lib.hid r_S
    have HR_U := Lib.hid r_U
    have HB := Lib.hid bel
    clear k_A k_T k_P r_N r_S r_U bel
    have HK_U := Lib.hid hkx
    clear hkx
    by_cases h9 : P = 9 ∨ P = 11
    · rcases h9 with rfl | rfl
      · have c_U0 : wn6.cell? ⟨g_U, 0, none⟩ = some (.slice A2 n2 c2) := (HK_U.out.cell 0).trans rfl
        have c_U1 : wn6.cell? ⟨g_U, 1, none⟩ = some (.int .i64 lv2) := (HK_U.out.cell 1).trans rfl
        have c_U2 : wn6.cell? ⟨g_U, 2, none⟩ = some (.int .i64 nx2) := (HK_U.out.cell 2).trans rfl
        have c_U3 : wn6.cell? ⟨g_U, 3, none⟩ = some (.int .u64 nw2) := (HK_U.out.cell 3).trans rfl
        have HC := Lib.hid (right_c (cap := c2) HRT.out HN2.out hc2 HR_U.out (HTT.out.below HB.out) HSU.out)
        go_wp2_with fail
        refine HC.out.mono ?_
        rintro e wz ⟨rfl, hbn⟩
        go_wp2_with fail
        go_ret
        exact ⟨rfl, HB.out.trans (hbn.mono HB.out.size)⟩
      · have c_U0 : wn6.cell? ⟨g_U, 0, none⟩ = some (.slice A2 n2 c2) := (HK_U.out.cell 0).trans rfl
        have c_U1 : wn6.cell? ⟨g_U, 1, none⟩ = some (.int .i64 lv2) := (HK_U.out.cell 1).trans rfl
        have c_U2 : wn6.cell? ⟨g_U, 2, none⟩ = some (.int .i64 nx2) := (HK_U.out.cell 2).trans rfl
        have c_U3 : wn6.cell? ⟨g_U, 3, none⟩ = some (.int .u64 nw2) := (HK_U.out.cell 3).trans rfl
        have HC := Lib.hid (right_c (cap := c2) HRT.out HN2.out hc2 HR_U.out (HTT.out.below HB.out) HSU.out)
        go_wp2_with fail
        refine HC.out.mono ?_
        rintro e wz ⟨rfl, hbn⟩
        go_wp2_with fail
        go_ret
        exact ⟨rfl, HB.out.trans (hbn.mono HB.out.size)⟩
    have h9n : P ≠ 9 := fun h => h9 (.inl h)
    have h11n : P ≠ 11 := fun h => h9 (.inr h)
    have h9b : (P == 9) = false := by rw [beq_eq_false_iff_ne]; exact h9n
    have h11b : (P == 11) = false := by rw [beq_eq_false_iff_ne]; exact h11n
    clear h9
    by_cases hpe : pe = 0
    case neg =>
      have hbd := HBA.out hpe
      injection hbd with hb1 hb2
      have hk0 : km = 0 := by rw [← HKM.out, hb1]; rfl
      have hs0 : ks = 0 := by rw [← HKS.out, hb2]; rfl
      have hpb : (pe != 0) = true := by simp [hpe]
      clear hb1 hb2
      subst hk0 hs0
      have c_P0 : wn6.cell? ⟨g_P, 0, none⟩ = some (.slice M1 0 m1) := (HK_P.out.cell 0).trans rfl
      have c_P1 : wn6.cell? ⟨g_P, 1, none⟩ = some (.slice S1 0 s1) := (HK_P.out.cell 1).trans rfl
      go_wp2_with fail
      go_ret
      exact ⟨rfl, HB.out⟩
    subst hpe
    obtain ⟨f1, f2, f3⟩ := HFI.out rfl h9n h11n
    subst f1
    have HF2 := Lib.hid f2
    have HF3 := Lib.hid f3
    clear f2 f3 HFI HBA
    have c_U0 : wn6.cell? ⟨g_U, 0, none⟩ = some (.slice A2 n2 c2) := (HK_U.out.cell 0).trans rfl
    have c_U1 : wn6.cell? ⟨g_U, 1, none⟩ = some (.int .i64 lv2) := (HK_U.out.cell 1).trans rfl
    have c_U2 : wn6.cell? ⟨g_U, 2, none⟩ = some (.int .i64 nx2) := (HK_U.out.cell 2).trans rfl
    have c_U3 : wn6.cell? ⟨g_U, 3, none⟩ = some (.int .u64 nw2) := (HK_U.out.cell 3).trans rfl
    have HC := Lib.hid (right_c (cap := c2) HRT.out HN2.out hc2 HR_U.out (HTT.out.below HB.out) HSU.out)
    go_wp2_with fail
    refine HC.out.mono ?_
    rintro e wn7 ⟨rfl, hbn⟩
    clear c_U0 c_U1 c_U2 c_U3 HC
    have k_A := HK_A.out.below hbn HK_A.out.lt
    have k_T := HK_T.out.below hbn HK_T.out.lt
    have k_P := HK_P.out.below hbn HK_P.out.lt
    have k_U := HK_U.out.below hbn HK_U.out.lt
    have r_N := HR_N.out.below hbn
    have r_S := HR_S.out.below hbn
    have r_U := HR_U.out.below hbn
    have bel := HB.out.trans (hbn.mono HB.out.size)
    clear HK_A HK_T HK_P HK_U HR_N HR_S HR_U HB hbn
    have HK_A := Lib.hid k_A
    have HK_T := Lib.hid k_T
    have HK_P := Lib.hid k_P
    have HK_U := Lib.hid k_U
    have HR_N := Lib.hid r_N
    have HR_S := Lib.hid r_S
    have HR_U := Lib.hid r_U
    have HB := Lib.hid bel
    clear k_A k_T k_P k_U r_N r_S r_U bel
    have c_T0 : wn7.cell? ⟨g_T, 0, none⟩ = some (.slice A1 n1 c1) := (HK_T.out.cell 0).trans rfl
    go_wp2_with fail
    clear c_T0
    go_loopg [14] n1 (fun k v14 wr => ∃ (j : Nat), j + k = n1 ∧ v14 = .int .i64 (j : Int) ∧ Hid (Below wn7.heap.size wn7 wr))
    case atStart => exact ⟨0, by omega, rfl, Lib.hid (Below.refl _ _)⟩
    case round =>
      obtain ⟨j, hjk, rfl, HE_L⟩ := hrel
      have k_A := HK_A.out.below HE_L.out HK_A.out.lt
      have k_T := HK_T.out.below HE_L.out HK_T.out.lt
      have k_P := HK_P.out.below HE_L.out HK_P.out.lt
      have k_U := HK_U.out.below HE_L.out HK_U.out.lt
      have r_N := HR_N.out.below HE_L.out
      have r_S := HR_S.out.below HE_L.out
      have r_U := HR_U.out.below HE_L.out
      have bel := HB.out.trans (HE_L.out.mono HB.out.size)
      clear HK_A HK_T HK_P HK_U HR_N HR_S HR_U HB
      have HK_A := Lib.hid k_A
      have HK_T := Lib.hid k_T
      have HK_P := Lib.hid k_P
      have HK_U := Lib.hid k_U
      have HR_N := Lib.hid r_N
      have HR_S := Lib.hid r_S
      have HR_U := Lib.hid r_U
      have HB := Lib.hid bel
      clear k_A k_T k_P k_U r_N r_S r_U bel
      by_cases hlt : j < n1
      · have hjl : j < l1.length := by rw [HN1.out]; exact hlt
        have hxm := List.getElem_mem hjl
        obtain ⟨b2, off, hA1, ⟨cs, fr, hob⟩, hcell⟩ := HR_N.out (by omega)
        obtain ⟨d0, d1, d2, d3, d4, d5⟩ := nodes_get hcell j hjl
        obtain ⟨x, hx⟩ : ∃ x, l1[j]'hjl = x := ⟨_, rfl⟩
        rw [hx] at d0 d1 d2 d3 d4 d5 hxm
        have hfn := fine_node HF2.out HR1.out hxm (decide (6 ≤ P ∧ P ≤ 8 ∧ x.id = a1)) (by
          have hp := HR1.out.pos hxm
          unfold delOf
          dsimp only
          rw [HPP.out]
          by_cases hc : 6 ≤ P ∧ P ≤ 8
          · rw [if_pos hc, decide_eq_true_eq]; exact ⟨fun h => h.2.2, fun h => ⟨hc.1, hc.2, h⟩⟩
          · rw [if_neg hc, decide_eq_true_eq]; exact ⟨fun h => absurd ⟨h.1, h.2.1⟩ hc, fun h => by omega⟩)
        obtain ⟨x0, x1, x2, x3, x4, x5⟩ := x
        dsimp only at d0 d1 d2 d3 d4 d5 hfn
        obtain ⟨⟨⟨y0, y1, y2, y3, y4, y5⟩, is⟩, hfy⟩ : ∃ q, findN l2 x0 = q := ⟨_, rfl⟩
        rw [hfy] at hfn
        dsimp only at hfn
        have HFY := Lib.hid hfy
        have HFN := Lib.hid hfn
        have c_T0 : wr.cell? ⟨g_T, 0, none⟩ = some (.slice A1 n1 c1) := (HK_T.out.cell 0).trans rfl
        rw [hA1] at c_T0
        clear hcell hob hx hxm hfy hfn hA1
        obtain ⟨g_X, hg⟩ : ∃ g, g = wr.heap.size := ⟨_, rfl⟩
        have lt_A_X : g_A < g_X := by have := HK_A.out.lt; omega
        have lt_T_X : g_T < g_X := by have := HK_T.out.lt; omega
        have lt_P_X : g_P < g_X := by have := HK_P.out.lt; omega
        have lt_U_X : g_U < g_X := by have := HK_U.out.lt; omega
        have bs_X : w.heap.size ≤ g_X := by have := HB.out.size; omega
        have HG := Lib.hid hg
        clear hg
        go_upto_region 20 with fail
        have hbx : Below wr.heap.size wr (wr.alloc (.cells #[.int .i64 x0, .int .i64 x1, .string x2, .int .u64 x3, .bool x4, .bool x5] 42)) := (Below.refl _ _).alloc (Nat.le_refl _) _
        have hkx := Blk.new wr 42 #[.int .i64 x0, .int .i64 x1, .string x2, .int .u64 x3, .bool x4, .bool x5]
        rw [← HG.out] at hkx ⊢
        generalize (wr.alloc (.cells #[.int .i64 x0, .int .i64 x1, .string x2, .int .u64 x3, .bool x4, .bool x5] 42)) = wn8 at hbx hkx ⊢
        clear HG
        have k_A := HK_A.out.below hbx HK_A.out.lt
        have k_T := HK_T.out.below hbx HK_T.out.lt
        have k_P := HK_P.out.below hbx HK_P.out.lt
        have k_U := HK_U.out.below hbx HK_U.out.lt
        have r_N := HR_N.out.below hbx
        have r_S := HR_S.out.below hbx
        have r_U := HR_U.out.below hbx
        have e_L := HE_L.out.trans (hbx.mono HE_L.out.size)
        have bel := HB.out.trans (hbx.mono HB.out.size)
        clear HK_A HK_T HK_P HK_U HR_N HR_S HR_U HE_L HB hbx
        have HK_A := Lib.hid k_A
        have HK_T := Lib.hid k_T
        have HK_P := Lib.hid k_P
        have HK_U := Lib.hid k_U
        have HR_N := Lib.hid r_N
        have HR_S := Lib.hid r_S
        have HR_U := Lib.hid r_U
        have HE_L := Lib.hid e_L
        have HB := Lib.hid bel
        clear k_A k_T k_P k_U r_N r_S r_U e_L bel
        have HK_X := Lib.hid hkx
        clear hkx
        clear c_T0 d0 d1 d2 d3 d4 d5
        have c_U0 : wn8.cell? ⟨g_U, 0, none⟩ = some (.slice A2 n2 c2) := (HK_U.out.cell 0).trans rfl
        have c_U1 : wn8.cell? ⟨g_U, 1, none⟩ = some (.int .i64 lv2) := (HK_U.out.cell 1).trans rfl
        have c_U2 : wn8.cell? ⟨g_U, 2, none⟩ = some (.int .i64 nx2) := (HK_U.out.cell 2).trans rfl
        have c_U3 : wn8.cell? ⟨g_U, 3, none⟩ = some (.int .u64 nw2) := (HK_U.out.cell 3).trans rfl
        have c_X0 : wn8.cell? ⟨g_X, 0, none⟩ = some (.int .i64 x0) := (HK_X.out.cell 0).trans rfl
        have HC := Lib.hid (find_c (lv := lv2) (nx := nx2) (nw := nw2) (cap := c2) HFY.out HN2.out (by omega) HR_U.out)
        go_wp2_with fail
        refine HC.out.mono ?_
        rintro e wn9 ⟨rfl, hbn⟩
        clear c_U0 c_U1 c_U2 c_U3 c_X0 HC
        have k_A := HK_A.out.below hbn HK_A.out.lt
        have k_T := HK_T.out.below hbn HK_T.out.lt
        have k_P := HK_P.out.below hbn HK_P.out.lt
        have k_U := HK_U.out.below hbn HK_U.out.lt
        have k_X := HK_X.out.below hbn HK_X.out.lt
        have r_N := HR_N.out.below hbn
        have r_S := HR_S.out.below hbn
        have r_U := HR_U.out.below hbn
        have e_L := HE_L.out.trans (hbn.mono HE_L.out.size)
        have bel := HB.out.trans (hbn.mono HB.out.size)
        clear HK_A HK_T HK_P HK_U HK_X HR_N HR_S HR_U HE_L HB hbn
        have HK_A := Lib.hid k_A
        have HK_T := Lib.hid k_T
        have HK_P := Lib.hid k_P
        have HK_U := Lib.hid k_U
        have HK_X := Lib.hid k_X
        have HR_N := Lib.hid r_N
        have HR_S := Lib.hid r_S
        have HR_U := Lib.hid r_U
        have HE_L := Lib.hid e_L
        have HB := Lib.hid bel
        clear k_A k_T k_P k_U k_X r_N r_S r_U e_L bel
        obtain ⟨g_Y, hg⟩ : ∃ g, g = wn9.heap.size := ⟨_, rfl⟩
        have lt_A_Y : g_A < g_Y := by have := HK_A.out.lt; omega
        have lt_T_Y : g_T < g_Y := by have := HK_T.out.lt; omega
        have lt_P_Y : g_P < g_Y := by have := HK_P.out.lt; omega
        have lt_U_Y : g_U < g_Y := by have := HK_U.out.lt; omega
        have lt_X_Y : g_X < g_Y := by have := HK_X.out.lt; omega
        have bs_Y : w.heap.size ≤ g_Y := by have := HB.out.size; omega
        have HG := Lib.hid hg
        clear hg
        go_upto_region 21 with fail
        have hbx : Below wn9.heap.size wn9 (wn9.alloc (.cells #[.int .i64 y0, .int .i64 y1, .string y2, .int .u64 y3, .bool y4, .bool y5] 42)) := (Below.refl _ _).alloc (Nat.le_refl _) _
        have hkx := Blk.new wn9 42 #[.int .i64 y0, .int .i64 y1, .string y2, .int .u64 y3, .bool y4, .bool y5]
        rw [← HG.out] at hkx ⊢
        generalize (wn9.alloc (.cells #[.int .i64 y0, .int .i64 y1, .string y2, .int .u64 y3, .bool y4, .bool y5] 42)) = wn10 at hbx hkx ⊢
        clear HG
        have k_A := HK_A.out.below hbx HK_A.out.lt
        have k_T := HK_T.out.below hbx HK_T.out.lt
        have k_P := HK_P.out.below hbx HK_P.out.lt
        have k_U := HK_U.out.below hbx HK_U.out.lt
        have k_X := HK_X.out.below hbx HK_X.out.lt
        have r_N := HR_N.out.below hbx
        have r_S := HR_S.out.below hbx
        have r_U := HR_U.out.below hbx
        have e_L := HE_L.out.trans (hbx.mono HE_L.out.size)
        have bel := HB.out.trans (hbx.mono HB.out.size)
        clear HK_A HK_T HK_P HK_U HK_X HR_N HR_S HR_U HE_L HB hbx
        have HK_A := Lib.hid k_A
        have HK_T := Lib.hid k_T
        have HK_P := Lib.hid k_P
        have HK_U := Lib.hid k_U
        have HK_X := Lib.hid k_X
        have HR_N := Lib.hid r_N
        have HR_S := Lib.hid r_S
        have HR_U := Lib.hid r_U
        have HE_L := Lib.hid e_L
        have HB := Lib.hid bel
        clear k_A k_T k_P k_U k_X r_N r_S r_U e_L bel
        have HK_Y := Lib.hid hkx
        clear hkx
        obtain ⟨hf1, hf2⟩ := HFN.out
        have hcase : (x4 = true ∧ (is = false ∨ (is = true ∧ y4 = true))) ∨ (x4 = false ∧ is = true ∧ y4 = false ∧ y2 = x2 ∧ y3 = x3 ∧ y5 = x5 ∧ ¬ (6 ≤ P ∧ P ≤ 8 ∧ x0 = a1)) ∨ (x4 = false ∧ (is = false ∨ (is = true ∧ y4 = true)) ∧ 6 ≤ P ∧ P ≤ 8 ∧ x0 = a1) := by
          by_cases hd : 6 ≤ P ∧ P ≤ 8 ∧ x0 = a1
          · rw [decide_eq_true hd] at hf1
            have hg : is = false ∨ (is = true ∧ y4 = true) := by
              cases is
              · exact .inl rfl
              · cases y4
                · cases x4 <;> simp at hf1
                · exact .inr ⟨rfl, rfl⟩
            cases x4
            · exact .inr (.inr ⟨rfl, hg, hd⟩)
            · exact .inl ⟨rfl, hg⟩
          · rw [decide_eq_false hd] at hf1
            cases x4
            · cases is
              · simp at hf1
              · cases y4
                · rcases hf2 with h2 | h2
                  · simp at h2
                  · exact .inr (.inl ⟨rfl, rfl, rfl, h2.1, h2.2.1, h2.2.2, hd⟩)
                · simp at hf1
            · refine .inl ⟨rfl, ?_⟩
              cases is
              · exact .inl rfl
              · cases y4
                · simp at hf1
                · exact .inr ⟨rfl, rfl⟩
        clear hf1 hf2 HFN HFY
        rcases hcase with ⟨rfl, ⟨rfl⟩ | ⟨rfl, rfl⟩⟩ | ⟨rfl, rfl, rfl, rfl, rfl, rfl, hd⟩ | ⟨rfl, ⟨rfl⟩ | ⟨rfl, rfl⟩, h6, h8, he⟩
        · have c_X0 : wn10.cell? ⟨g_X, 0, none⟩ = some (.int .i64 x0) := (HK_X.out.cell 0).trans rfl
          have c_X1 : wn10.cell? ⟨g_X, 1, none⟩ = some (.int .i64 x1) := (HK_X.out.cell 1).trans rfl
          have c_X2 : wn10.cell? ⟨g_X, 2, none⟩ = some (.string x2) := (HK_X.out.cell 2).trans rfl
          have c_X3 : wn10.cell? ⟨g_X, 3, none⟩ = some (.int .u64 x3) := (HK_X.out.cell 3).trans rfl
          have c_X4 : wn10.cell? ⟨g_X, 4, none⟩ = some (.bool true) := (HK_X.out.cell 4).trans rfl
          have c_X5 : wn10.cell? ⟨g_X, 5, none⟩ = some (.bool x5) := (HK_X.out.cell 5).trans rfl
          have c_Y0 : wn10.cell? ⟨g_Y, 0, none⟩ = some (.int .i64 y0) := (HK_Y.out.cell 0).trans rfl
          have c_Y1 : wn10.cell? ⟨g_Y, 1, none⟩ = some (.int .i64 y1) := (HK_Y.out.cell 1).trans rfl
          have c_Y2 : wn10.cell? ⟨g_Y, 2, none⟩ = some (.string y2) := (HK_Y.out.cell 2).trans rfl
          have c_Y3 : wn10.cell? ⟨g_Y, 3, none⟩ = some (.int .u64 y3) := (HK_Y.out.cell 3).trans rfl
          have c_Y4 : wn10.cell? ⟨g_Y, 4, none⟩ = some (.bool y4) := (HK_Y.out.cell 4).trans rfl
          have c_Y5 : wn10.cell? ⟨g_Y, 5, none⟩ = some (.bool y5) := (HK_Y.out.cell 5).trans rfl
          have c_A1 : wn10.cell? ⟨g_A, 1, none⟩ = some (.int .i64 a1) := (HK_A.out.cell 1).trans rfl
          go_wp2_with fail
          go_roundg (gk - 1)
          case measure => omega
          case rel => exact ⟨j + 1, by omega, by go_num, HE_L⟩
        · have c_X0 : wn10.cell? ⟨g_X, 0, none⟩ = some (.int .i64 x0) := (HK_X.out.cell 0).trans rfl
          have c_X1 : wn10.cell? ⟨g_X, 1, none⟩ = some (.int .i64 x1) := (HK_X.out.cell 1).trans rfl
          have c_X2 : wn10.cell? ⟨g_X, 2, none⟩ = some (.string x2) := (HK_X.out.cell 2).trans rfl
          have c_X3 : wn10.cell? ⟨g_X, 3, none⟩ = some (.int .u64 x3) := (HK_X.out.cell 3).trans rfl
          have c_X4 : wn10.cell? ⟨g_X, 4, none⟩ = some (.bool true) := (HK_X.out.cell 4).trans rfl
          have c_X5 : wn10.cell? ⟨g_X, 5, none⟩ = some (.bool x5) := (HK_X.out.cell 5).trans rfl
          have c_Y0 : wn10.cell? ⟨g_Y, 0, none⟩ = some (.int .i64 y0) := (HK_Y.out.cell 0).trans rfl
          have c_Y1 : wn10.cell? ⟨g_Y, 1, none⟩ = some (.int .i64 y1) := (HK_Y.out.cell 1).trans rfl
          have c_Y2 : wn10.cell? ⟨g_Y, 2, none⟩ = some (.string y2) := (HK_Y.out.cell 2).trans rfl
          have c_Y3 : wn10.cell? ⟨g_Y, 3, none⟩ = some (.int .u64 y3) := (HK_Y.out.cell 3).trans rfl
          have c_Y4 : wn10.cell? ⟨g_Y, 4, none⟩ = some (.bool true) := (HK_Y.out.cell 4).trans rfl
          have c_Y5 : wn10.cell? ⟨g_Y, 5, none⟩ = some (.bool y5) := (HK_Y.out.cell 5).trans rfl
          have c_A1 : wn10.cell? ⟨g_A, 1, none⟩ = some (.int .i64 a1) := (HK_A.out.cell 1).trans rfl
          go_wp2_with fail
          go_roundg (gk - 1)
          case measure => omega
          case rel => exact ⟨j + 1, by omega, by go_num, HE_L⟩
        · have hself : (y2.toList == y2.toList) = true := by simp
          by_cases h6 : 6 ≤ P
          · by_cases h8 : P ≤ 8
            · have hb6 : decide (6 ≤ P) = true := decide_eq_true h6
              have hb8 : decide (P ≤ 8) = true := decide_eq_true h8
              have heb : (x0 == a1) = false := by rw [beq_eq_false_iff_ne]; exact fun h => hd ⟨h6, h8, h⟩
              have c_X0 : wn10.cell? ⟨g_X, 0, none⟩ = some (.int .i64 x0) := (HK_X.out.cell 0).trans rfl
              have c_X1 : wn10.cell? ⟨g_X, 1, none⟩ = some (.int .i64 x1) := (HK_X.out.cell 1).trans rfl
              have c_X2 : wn10.cell? ⟨g_X, 2, none⟩ = some (.string y2) := (HK_X.out.cell 2).trans rfl
              have c_X3 : wn10.cell? ⟨g_X, 3, none⟩ = some (.int .u64 y3) := (HK_X.out.cell 3).trans rfl
              have c_X4 : wn10.cell? ⟨g_X, 4, none⟩ = some (.bool false) := (HK_X.out.cell 4).trans rfl
              have c_X5 : wn10.cell? ⟨g_X, 5, none⟩ = some (.bool y5) := (HK_X.out.cell 5).trans rfl
              have c_Y0 : wn10.cell? ⟨g_Y, 0, none⟩ = some (.int .i64 y0) := (HK_Y.out.cell 0).trans rfl
              have c_Y1 : wn10.cell? ⟨g_Y, 1, none⟩ = some (.int .i64 y1) := (HK_Y.out.cell 1).trans rfl
              have c_Y2 : wn10.cell? ⟨g_Y, 2, none⟩ = some (.string y2) := (HK_Y.out.cell 2).trans rfl
              have c_Y3 : wn10.cell? ⟨g_Y, 3, none⟩ = some (.int .u64 y3) := (HK_Y.out.cell 3).trans rfl
              have c_Y4 : wn10.cell? ⟨g_Y, 4, none⟩ = some (.bool false) := (HK_Y.out.cell 4).trans rfl
              have c_Y5 : wn10.cell? ⟨g_Y, 5, none⟩ = some (.bool y5) := (HK_Y.out.cell 5).trans rfl
              have c_A1 : wn10.cell? ⟨g_A, 1, none⟩ = some (.int .i64 a1) := (HK_A.out.cell 1).trans rfl
              go_wp2_with fail
              go_roundg (gk - 1)
              case measure => omega
              case rel => exact ⟨j + 1, by omega, by go_num, HE_L⟩
            · have hb6 : decide (6 ≤ P) = true := decide_eq_true h6
              have hb8 : decide (P ≤ 8) = false := decide_eq_false h8
              have c_X0 : wn10.cell? ⟨g_X, 0, none⟩ = some (.int .i64 x0) := (HK_X.out.cell 0).trans rfl
              have c_X1 : wn10.cell? ⟨g_X, 1, none⟩ = some (.int .i64 x1) := (HK_X.out.cell 1).trans rfl
              have c_X2 : wn10.cell? ⟨g_X, 2, none⟩ = some (.string y2) := (HK_X.out.cell 2).trans rfl
              have c_X3 : wn10.cell? ⟨g_X, 3, none⟩ = some (.int .u64 y3) := (HK_X.out.cell 3).trans rfl
              have c_X4 : wn10.cell? ⟨g_X, 4, none⟩ = some (.bool false) := (HK_X.out.cell 4).trans rfl
              have c_X5 : wn10.cell? ⟨g_X, 5, none⟩ = some (.bool y5) := (HK_X.out.cell 5).trans rfl
              have c_Y0 : wn10.cell? ⟨g_Y, 0, none⟩ = some (.int .i64 y0) := (HK_Y.out.cell 0).trans rfl
              have c_Y1 : wn10.cell? ⟨g_Y, 1, none⟩ = some (.int .i64 y1) := (HK_Y.out.cell 1).trans rfl
              have c_Y2 : wn10.cell? ⟨g_Y, 2, none⟩ = some (.string y2) := (HK_Y.out.cell 2).trans rfl
              have c_Y3 : wn10.cell? ⟨g_Y, 3, none⟩ = some (.int .u64 y3) := (HK_Y.out.cell 3).trans rfl
              have c_Y4 : wn10.cell? ⟨g_Y, 4, none⟩ = some (.bool false) := (HK_Y.out.cell 4).trans rfl
              have c_Y5 : wn10.cell? ⟨g_Y, 5, none⟩ = some (.bool y5) := (HK_Y.out.cell 5).trans rfl
              have c_A1 : wn10.cell? ⟨g_A, 1, none⟩ = some (.int .i64 a1) := (HK_A.out.cell 1).trans rfl
              go_wp2_with fail
              go_roundg (gk - 1)
              case measure => omega
              case rel => exact ⟨j + 1, by omega, by go_num, HE_L⟩
          · have hb6 : decide (6 ≤ P) = false := decide_eq_false h6
            have c_X0 : wn10.cell? ⟨g_X, 0, none⟩ = some (.int .i64 x0) := (HK_X.out.cell 0).trans rfl
            have c_X1 : wn10.cell? ⟨g_X, 1, none⟩ = some (.int .i64 x1) := (HK_X.out.cell 1).trans rfl
            have c_X2 : wn10.cell? ⟨g_X, 2, none⟩ = some (.string y2) := (HK_X.out.cell 2).trans rfl
            have c_X3 : wn10.cell? ⟨g_X, 3, none⟩ = some (.int .u64 y3) := (HK_X.out.cell 3).trans rfl
            have c_X4 : wn10.cell? ⟨g_X, 4, none⟩ = some (.bool false) := (HK_X.out.cell 4).trans rfl
            have c_X5 : wn10.cell? ⟨g_X, 5, none⟩ = some (.bool y5) := (HK_X.out.cell 5).trans rfl
            have c_Y0 : wn10.cell? ⟨g_Y, 0, none⟩ = some (.int .i64 y0) := (HK_Y.out.cell 0).trans rfl
            have c_Y1 : wn10.cell? ⟨g_Y, 1, none⟩ = some (.int .i64 y1) := (HK_Y.out.cell 1).trans rfl
            have c_Y2 : wn10.cell? ⟨g_Y, 2, none⟩ = some (.string y2) := (HK_Y.out.cell 2).trans rfl
            have c_Y3 : wn10.cell? ⟨g_Y, 3, none⟩ = some (.int .u64 y3) := (HK_Y.out.cell 3).trans rfl
            have c_Y4 : wn10.cell? ⟨g_Y, 4, none⟩ = some (.bool false) := (HK_Y.out.cell 4).trans rfl
            have c_Y5 : wn10.cell? ⟨g_Y, 5, none⟩ = some (.bool y5) := (HK_Y.out.cell 5).trans rfl
            have c_A1 : wn10.cell? ⟨g_A, 1, none⟩ = some (.int .i64 a1) := (HK_A.out.cell 1).trans rfl
            go_wp2_with fail
            go_roundg (gk - 1)
            case measure => omega
            case rel => exact ⟨j + 1, by omega, by go_num, HE_L⟩
        · have hb6 : decide (6 ≤ P) = true := decide_eq_true h6
          have hb8 : decide (P ≤ 8) = true := decide_eq_true h8
          have heb : (x0 == a1) = true := by rw [beq_iff_eq]; exact he
          have c_X0 : wn10.cell? ⟨g_X, 0, none⟩ = some (.int .i64 x0) := (HK_X.out.cell 0).trans rfl
          have c_X1 : wn10.cell? ⟨g_X, 1, none⟩ = some (.int .i64 x1) := (HK_X.out.cell 1).trans rfl
          have c_X2 : wn10.cell? ⟨g_X, 2, none⟩ = some (.string x2) := (HK_X.out.cell 2).trans rfl
          have c_X3 : wn10.cell? ⟨g_X, 3, none⟩ = some (.int .u64 x3) := (HK_X.out.cell 3).trans rfl
          have c_X4 : wn10.cell? ⟨g_X, 4, none⟩ = some (.bool false) := (HK_X.out.cell 4).trans rfl
          have c_X5 : wn10.cell? ⟨g_X, 5, none⟩ = some (.bool x5) := (HK_X.out.cell 5).trans rfl
          have c_Y0 : wn10.cell? ⟨g_Y, 0, none⟩ = some (.int .i64 y0) := (HK_Y.out.cell 0).trans rfl
          have c_Y1 : wn10.cell? ⟨g_Y, 1, none⟩ = some (.int .i64 y1) := (HK_Y.out.cell 1).trans rfl
          have c_Y2 : wn10.cell? ⟨g_Y, 2, none⟩ = some (.string y2) := (HK_Y.out.cell 2).trans rfl
          have c_Y3 : wn10.cell? ⟨g_Y, 3, none⟩ = some (.int .u64 y3) := (HK_Y.out.cell 3).trans rfl
          have c_Y4 : wn10.cell? ⟨g_Y, 4, none⟩ = some (.bool y4) := (HK_Y.out.cell 4).trans rfl
          have c_Y5 : wn10.cell? ⟨g_Y, 5, none⟩ = some (.bool y5) := (HK_Y.out.cell 5).trans rfl
          have c_A1 : wn10.cell? ⟨g_A, 1, none⟩ = some (.int .i64 a1) := (HK_A.out.cell 1).trans rfl
          go_wp2_with fail
          go_roundg (gk - 1)
          case measure => omega
          case rel => exact ⟨j + 1, by omega, by go_num, HE_L⟩
        · have hb6 : decide (6 ≤ P) = true := decide_eq_true h6
          have hb8 : decide (P ≤ 8) = true := decide_eq_true h8
          have heb : (x0 == a1) = true := by rw [beq_iff_eq]; exact he
          have c_X0 : wn10.cell? ⟨g_X, 0, none⟩ = some (.int .i64 x0) := (HK_X.out.cell 0).trans rfl
          have c_X1 : wn10.cell? ⟨g_X, 1, none⟩ = some (.int .i64 x1) := (HK_X.out.cell 1).trans rfl
          have c_X2 : wn10.cell? ⟨g_X, 2, none⟩ = some (.string x2) := (HK_X.out.cell 2).trans rfl
          have c_X3 : wn10.cell? ⟨g_X, 3, none⟩ = some (.int .u64 x3) := (HK_X.out.cell 3).trans rfl
          have c_X4 : wn10.cell? ⟨g_X, 4, none⟩ = some (.bool false) := (HK_X.out.cell 4).trans rfl
          have c_X5 : wn10.cell? ⟨g_X, 5, none⟩ = some (.bool x5) := (HK_X.out.cell 5).trans rfl
          have c_Y0 : wn10.cell? ⟨g_Y, 0, none⟩ = some (.int .i64 y0) := (HK_Y.out.cell 0).trans rfl
          have c_Y1 : wn10.cell? ⟨g_Y, 1, none⟩ = some (.int .i64 y1) := (HK_Y.out.cell 1).trans rfl
          have c_Y2 : wn10.cell? ⟨g_Y, 2, none⟩ = some (.string y2) := (HK_Y.out.cell 2).trans rfl
          have c_Y3 : wn10.cell? ⟨g_Y, 3, none⟩ = some (.int .u64 y3) := (HK_Y.out.cell 3).trans rfl
          have c_Y4 : wn10.cell? ⟨g_Y, 4, none⟩ = some (.bool true) := (HK_Y.out.cell 4).trans rfl
          have c_Y5 : wn10.cell? ⟨g_Y, 5, none⟩ = some (.bool y5) := (HK_Y.out.cell 5).trans rfl
          have c_A1 : wn10.cell? ⟨g_A, 1, none⟩ = some (.int .i64 a1) := (HK_A.out.cell 1).trans rfl
          go_wp2_with fail
          go_roundg (gk - 1)
          case measure => omega
          case rel => exact ⟨j + 1, by omega, by go_num, HE_L⟩
      · obtain rfl : j = n1 := by omega
        have c_T0 : wr.cell? ⟨g_T, 0, none⟩ = some (.slice A1 j c1) := (HK_T.out.cell 0).trans rfl
        go_wp2_with fail
        clear c_T0
        clear HE_L hlt
        go_loopg [19] n2 (fun k v19 wq => ∃ (i : Nat), i + k = n2 ∧ v19 = .int .i64 (i : Int) ∧ Hid (Below wr.heap.size wr wq))
        case atStart => exact ⟨0, by omega, rfl, Lib.hid (Below.refl _ _)⟩
        case round =>
          obtain ⟨i, hik, rfl, HE_M⟩ := hrel
          have k_A := HK_A.out.below HE_M.out HK_A.out.lt
          have k_T := HK_T.out.below HE_M.out HK_T.out.lt
          have k_P := HK_P.out.below HE_M.out HK_P.out.lt
          have k_U := HK_U.out.below HE_M.out HK_U.out.lt
          have r_N := HR_N.out.below HE_M.out
          have r_S := HR_S.out.below HE_M.out
          have r_U := HR_U.out.below HE_M.out
          have bel := HB.out.trans (HE_M.out.mono HB.out.size)
          clear HK_A HK_T HK_P HK_U HR_N HR_S HR_U HB
          have HK_A := Lib.hid k_A
          have HK_T := Lib.hid k_T
          have HK_P := Lib.hid k_P
          have HK_U := Lib.hid k_U
          have HR_N := Lib.hid r_N
          have HR_S := Lib.hid r_S
          have HR_U := Lib.hid r_U
          have HB := Lib.hid bel
          clear k_A k_T k_P k_U r_N r_S r_U bel
          have hlu : g_U < wr.heap.size := HK_U.out.lt
          have hla : g_A < wr.heap.size := HK_A.out.lt
          have c_U0 : wr.cell? ⟨g_U, 0, none⟩ = some (.slice A2 n2 c2) := (HK_U.out.cell 0).trans rfl
          by_cases h10 : P = 10
          · subst h10
            by_cases hlt : i < n2
            · have hil : i < l2.length := by rw [HN2.out]; exact hlt
              have hym := List.getElem_mem hil
              obtain ⟨b3, of3, hA2, ⟨cs, fr, hob⟩, hcell⟩ := HR_U.out (by omega)
              obtain ⟨e0, _, _, _, e4, _⟩ := nodes_get hcell i hil
              obtain ⟨y, hy⟩ : ∃ y, l2[i]'hil = y := ⟨_, rfl⟩
              rw [hy] at e0 e4 hym
              obtain ⟨y0, y1, y2, y3, y4, y5⟩ := y
              dsimp only at e0 e4
              have hlb := obj_lt hob
              have hk2 : y4 = true → 2 ≤ (kidsN l2 lv2 y0).length := fun h => ((HF3.out rfl).2 _ hym h).1
              have hki := fun (wx : World) (hb : Below wr.heap.size wr wx) => kids_any A2 c2 l2 lv2 nx2 nw2 y0 wx HSU.out.1 (HR_U.out.below hb)
              obtain ⟨kl, hkl⟩ : ∃ kl, (kidsN l2 lv2 y0).length = kl := ⟨_, rfl⟩
              rw [hkl] at hk2 hki
              rw [HN2.out] at hki
              have HKI := Lib.hid hki
              clear c_U0
              have c_U0 : wr.cell? ⟨g_U, 0, none⟩ = some (.slice A2 n2 c2) := (HK_U.out.cell 0).trans rfl
              rw [hA2] at c_U0 HKI
              clear hcell hob hy hym hki hkl hA2
              have c_U1 : wr.cell? ⟨g_U, 1, none⟩ = some (.int .i64 lv2) := (HK_U.out.cell 1).trans rfl
              have c_U2 : wr.cell? ⟨g_U, 2, none⟩ = some (.int .i64 nx2) := (HK_U.out.cell 2).trans rfl
              have c_U3 : wr.cell? ⟨g_U, 3, none⟩ = some (.int .u64 nw2) := (HK_U.out.cell 3).trans rfl
              cases y4 with
              | false =>
                go_upto_region 27 with fail
                have hkeep : ∀ w', Below wr.heap.size wr w' → w'.cell? ⟨g_U, 0, none⟩ = some (.slice (some ⟨b3, of3, none⟩) n2 c2) ∧ w'.cell? ⟨g_U, 1, none⟩ = some (.int .i64 lv2) ∧ w'.cell? ⟨g_U, 2, none⟩ = some (.int .i64 nx2) ∧ w'.cell? ⟨g_U, 3, none⟩ = some (.int .u64 nw2) ∧ w'.cell? ⟨b3, of3 + i * 6, none⟩ = some (.int .i64 y0) ∧ w'.cell? ⟨b3, of3 + i * 6 + 4, none⟩ = some (.bool false) := fun w' hb => ⟨(hb.cell (p := ⟨g_U, 0, none⟩) hlu).trans c_U0, (hb.cell (p := ⟨g_U, 1, none⟩) hlu).trans c_U1, (hb.cell (p := ⟨g_U, 2, none⟩) hlu).trans c_U2, (hb.cell (p := ⟨g_U, 3, none⟩) hlu).trans c_U3, (hb.cell (p := ⟨b3, of3 + i * 6, none⟩) hlb).trans e0, (hb.cell (p := ⟨b3, of3 + i * 6 + 4, none⟩) hlb).trans e4⟩
                have HKP := Lib.hid hkeep
                clear hkeep hk2
                go_big_quiet (fail)
                have HB5 := Lib.hid (below_drewN (Below.refl wr.heap.size wr) nq)
                go_wp2_with fail
                go_roundg (gk - 1)
                case measure => omega
                case rel => exact ⟨i + 1, by omega, by go_num, Lib.hid (HE_M.out.trans (HB5.out.mono HE_M.out.size))⟩
              | true =>
                have hk3 := hk2 rfl
                have hkb : decide ((kl : Int) < 2) = false := decide_eq_false (by omega)
                go_upto_region 27 with fail
                have hkeep : ∀ w', Below wr.heap.size wr w' → w'.cell? ⟨g_U, 0, none⟩ = some (.slice (some ⟨b3, of3, none⟩) n2 c2) ∧ w'.cell? ⟨g_U, 1, none⟩ = some (.int .i64 lv2) ∧ w'.cell? ⟨g_U, 2, none⟩ = some (.int .i64 nx2) ∧ w'.cell? ⟨g_U, 3, none⟩ = some (.int .u64 nw2) ∧ w'.cell? ⟨b3, of3 + i * 6, none⟩ = some (.int .i64 y0) ∧ w'.cell? ⟨b3, of3 + i * 6 + 4, none⟩ = some (.bool true) := fun w' hb => ⟨(hb.cell (p := ⟨g_U, 0, none⟩) hlu).trans c_U0, (hb.cell (p := ⟨g_U, 1, none⟩) hlu).trans c_U1, (hb.cell (p := ⟨g_U, 2, none⟩) hlu).trans c_U2, (hb.cell (p := ⟨g_U, 3, none⟩) hlu).trans c_U3, (hb.cell (p := ⟨b3, of3 + i * 6, none⟩) hlb).trans e0, (hb.cell (p := ⟨b3, of3 + i * 6 + 4, none⟩) hlb).trans e4⟩
                have HKP := Lib.hid hkeep
                clear hkeep hk2
                go_region_held3 (fun w' => w'.cell? ⟨g_U, 0, none⟩ = some (.slice (some ⟨b3, of3, none⟩) n2 c2) ∧ w'.cell? ⟨g_U, 1, none⟩ = some (.int .i64 lv2) ∧ w'.cell? ⟨g_U, 2, none⟩ = some (.int .i64 nx2) ∧ w'.cell? ⟨g_U, 3, none⟩ = some (.int .u64 nw2) ∧ w'.cell? ⟨b3, of3 + i * 6, none⟩ = some (.int .i64 y0) ∧ w'.cell? ⟨b3, of3 + i * 6 + 4, none⟩ = some (.bool true))
                  (first | exact HKP.out _ (below_drew1 (Below.refl _ _)) | exact HKP.out _ hbl5 | fail)
                  (first
                    | (go_at_call 30; refine (HKI.out _ ?_).mono ?_; (exact below_drew1 (Below.refl _ _)); (rintro e w5 ⟨v5, rfl, ho5, hb5⟩; have hbl5 : Below wr.heap.size wr w5 := (below_drew1 (Below.refl _ _)).trans hb5; obtain ⟨A5, c5, rfl⟩ := own_formT ho5; clear ho5))
                    | fail)
                all_goals have HB5 := Lib.hid hbl5
                all_goals clear hbl5
                all_goals go_wp2_with fail
                all_goals go_roundg (gk - 1)
                all_goals first | omega | exact ⟨i + 1, by omega, by go_num, Lib.hid (HE_M.out.trans (HB5.out.mono HE_M.out.size))⟩
            · obtain rfl : i = n2 := by omega
              clear c_U0
              have c_U0 : wr.cell? ⟨g_U, 0, none⟩ = some (.slice A2 i c2) := (HK_U.out.cell 0).trans rfl
              have c_U1 : wr.cell? ⟨g_U, 1, none⟩ = some (.int .i64 lv2) := (HK_U.out.cell 1).trans rfl
              have c_U2 : wr.cell? ⟨g_U, 2, none⟩ = some (.int .i64 nx2) := (HK_U.out.cell 2).trans rfl
              have c_U3 : wr.cell? ⟨g_U, 3, none⟩ = some (.int .u64 nw2) := (HK_U.out.cell 3).trans rfl
              have c_A2 : wr.cell? ⟨g_A, 2, none⟩ = some (.int .i64 a2) := (HK_A.out.cell 2).trans rfl
              go_upto_region 29 with fail
              have hkeep : ∀ w', Below wr.heap.size wr w' → w'.cell? ⟨g_U, 0, none⟩ = some (.slice A2 i c2) ∧ w'.cell? ⟨g_U, 1, none⟩ = some (.int .i64 lv2) ∧ w'.cell? ⟨g_U, 2, none⟩ = some (.int .i64 nx2) ∧ w'.cell? ⟨g_U, 3, none⟩ = some (.int .u64 nw2) ∧ w'.cell? ⟨g_A, 2, none⟩ = some (.int .i64 a2) := fun w' hb => ⟨(hb.cell (p := ⟨g_U, 0, none⟩) hlu).trans c_U0, (hb.cell (p := ⟨g_U, 1, none⟩) hlu).trans c_U1, (hb.cell (p := ⟨g_U, 2, none⟩) hlu).trans c_U2, (hb.cell (p := ⟨g_U, 3, none⟩) hlu).trans c_U3, (hb.cell (p := ⟨g_A, 2, none⟩) hla).trans c_A2⟩
              have HKP := Lib.hid hkeep
              clear hkeep
              have hrn := fun (wx : World) (hb : Below wr.heap.size wr wx) => runs_any A2 c2 l2 lv2 nx2 nw2 wx HSU.out.1 (HR_U.out.below hb)
              rw [HN2.out] at hrn
              obtain ⟨rr, hrr⟩ : ∃ rr, runsN l2 = rr := ⟨_, rfl⟩
              have hle : (rr : Int) ≤ a2 := by
                obtain ⟨q1, q2⟩ := HF3.out rfl
                rw [← hrr]
                exact runs_le (t := ⟨l2, lv2, nx2, nw2⟩) HRU.out q1 (fun y hy hg => (q2 y hy hg).2)
              rw [hrr] at hrn
              have HRN := Lib.hid hrn
              have hbl : decide ((rr : Int) ≤ a2) = true := decide_eq_true hle
              clear hrn hrr
              go_region_held3 (fun w' => w'.cell? ⟨g_U, 0, none⟩ = some (.slice A2 i c2) ∧ w'.cell? ⟨g_U, 1, none⟩ = some (.int .i64 lv2) ∧ w'.cell? ⟨g_U, 2, none⟩ = some (.int .i64 nx2) ∧ w'.cell? ⟨g_U, 3, none⟩ = some (.int .u64 nw2) ∧ w'.cell? ⟨g_A, 2, none⟩ = some (.int .i64 a2))
                (first | exact HKP.out _ (below_drew1 (Below.refl _ _)) | exact HKP.out _ hbl5 | fail)
                (first
                  | (go_at_call 27; refine (HRN.out _ ?_).mono ?_; (exact below_drew1 (Below.refl _ _)); (rintro e w5 ⟨rfl, hb5⟩; have hbl5 : Below wr.heap.size wr w5 := (below_drew1 (Below.refl _ _)).trans hb5))
                  | fail)
              all_goals have HB5 := Lib.hid hbl5
              all_goals clear hbl5
              all_goals go_wp2_with fail
              all_goals go_ret
              all_goals exact ⟨rfl, HB.out.trans (HB5.out.mono HB.out.size)⟩
          · have h10b : (P == 10) = false := by rw [beq_eq_false_iff_ne]; exact h10
            by_cases hlt : i < n2
            · clear c_U0
              have c_U0 : wr.cell? ⟨g_U, 0, none⟩ = some (.slice A2 n2 c2) := (HK_U.out.cell 0).trans rfl
              have c_U1 : wr.cell? ⟨g_U, 1, none⟩ = some (.int .i64 lv2) := (HK_U.out.cell 1).trans rfl
              have c_U2 : wr.cell? ⟨g_U, 2, none⟩ = some (.int .i64 nx2) := (HK_U.out.cell 2).trans rfl
              have c_U3 : wr.cell? ⟨g_U, 3, none⟩ = some (.int .u64 nw2) := (HK_U.out.cell 3).trans rfl
              have c_A2 : wr.cell? ⟨g_A, 2, none⟩ = some (.int .i64 a2) := (HK_A.out.cell 2).trans rfl
              go_upto_region 29 with fail
              have hkeep : ∀ w', Below wr.heap.size wr w' → w'.cell? ⟨g_U, 0, none⟩ = some (.slice A2 n2 c2) ∧ w'.cell? ⟨g_U, 1, none⟩ = some (.int .i64 lv2) ∧ w'.cell? ⟨g_U, 2, none⟩ = some (.int .i64 nx2) ∧ w'.cell? ⟨g_U, 3, none⟩ = some (.int .u64 nw2) ∧ w'.cell? ⟨g_A, 2, none⟩ = some (.int .i64 a2) := fun w' hb => ⟨(hb.cell (p := ⟨g_U, 0, none⟩) hlu).trans c_U0, (hb.cell (p := ⟨g_U, 1, none⟩) hlu).trans c_U1, (hb.cell (p := ⟨g_U, 2, none⟩) hlu).trans c_U2, (hb.cell (p := ⟨g_U, 3, none⟩) hlu).trans c_U3, (hb.cell (p := ⟨g_A, 2, none⟩) hla).trans c_A2⟩
              have HKP := Lib.hid hkeep
              clear hkeep
              clear HKP
              have h10n : (P != 10) = true := by simp [h10]
              go_big_quiet (fail)
              have HB5 := Lib.hid (below_drewN (Below.refl wr.heap.size wr) nq)
              go_wp2_with fail
              go_ret
              exact ⟨rfl, HB.out.trans (HB5.out.mono HB.out.size)⟩
            · obtain rfl : i = n2 := by omega
              clear c_U0
              have c_U0 : wr.cell? ⟨g_U, 0, none⟩ = some (.slice A2 i c2) := (HK_U.out.cell 0).trans rfl
              have c_U1 : wr.cell? ⟨g_U, 1, none⟩ = some (.int .i64 lv2) := (HK_U.out.cell 1).trans rfl
              have c_U2 : wr.cell? ⟨g_U, 2, none⟩ = some (.int .i64 nx2) := (HK_U.out.cell 2).trans rfl
              have c_U3 : wr.cell? ⟨g_U, 3, none⟩ = some (.int .u64 nw2) := (HK_U.out.cell 3).trans rfl
              have c_A2 : wr.cell? ⟨g_A, 2, none⟩ = some (.int .i64 a2) := (HK_A.out.cell 2).trans rfl
              go_upto_region 29 with fail
              have hkeep : ∀ w', Below wr.heap.size wr w' → w'.cell? ⟨g_U, 0, none⟩ = some (.slice A2 i c2) ∧ w'.cell? ⟨g_U, 1, none⟩ = some (.int .i64 lv2) ∧ w'.cell? ⟨g_U, 2, none⟩ = some (.int .i64 nx2) ∧ w'.cell? ⟨g_U, 3, none⟩ = some (.int .u64 nw2) ∧ w'.cell? ⟨g_A, 2, none⟩ = some (.int .i64 a2) := fun w' hb => ⟨(hb.cell (p := ⟨g_U, 0, none⟩) hlu).trans c_U0, (hb.cell (p := ⟨g_U, 1, none⟩) hlu).trans c_U1, (hb.cell (p := ⟨g_U, 2, none⟩) hlu).trans c_U2, (hb.cell (p := ⟨g_U, 3, none⟩) hlu).trans c_U3, (hb.cell (p := ⟨g_A, 2, none⟩) hla).trans c_A2⟩
              have HKP := Lib.hid hkeep
              clear hkeep
              clear HKP
              have h10n : (P != 10) = true := by simp [h10]
              go_big_quiet (fail)
              have HB5 := Lib.hid (below_drewN (Below.refl wr.heap.size wr) nq)
              go_wp2_with fail
              go_ret
              exact ⟨rfl, HB.out.trans (HB5.out.mono HB.out.size)⟩
end Go.Proofs.YtfdhehjfbcddgaaDoor.Pr
