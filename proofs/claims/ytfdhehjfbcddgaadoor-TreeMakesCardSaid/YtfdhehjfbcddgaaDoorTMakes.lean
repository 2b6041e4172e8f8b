/- rootcellarlaw14.TreeMakes. Conditions: the acts' numbers are numbers of Go; the tables of unicode/utf8 lie in memory. -/
import Derived.Test.YtfdhehjfbcddgaaDoorTPins
import Derived.Test.YtfdhehjfbcddgaaDoorTMakesP
namespace Go.Proofs.YtfdhehjfbcddgaaDoor.Pr
open Go.RowKit Go.Proofs.YtfdhehjfbcddgaaDoorW.PrintWords Go.Proofs.YtfdhehjfbcddgaaDoorW.PrintLast Go.Proofs.YtfdhehjfbcddgaaDoor
set_option linter.unusedVariables false
theorem steps_small {t : Tr} (h : SmallT t) : ∀ s ∈ stepsN t, s.text.size ≤ 1000000 := by
  intro s hs
  unfold stepsN at hs
  rcases List.mem_append.1 hs with hs | hs
  · obtain ⟨x, hx, hs⟩ := List.mem_flatMap.1 hs
    unfold stepOf at hs
    split at hs
    · cases hs
    · rcases List.mem_cons.1 hs with rfl | hs
      · exact h.2 x hx
      · split at hs
        · rw [List.mem_singleton] at hs; subst hs; exact Nat.zero_le _
        · cases hs
  · simp only [List.mem_cons, List.not_mem_nil, or_false] at hs
    rcases hs with rfl | rfl <;> exact Nat.zero_le _
theorem blk4 {w : World} {g : Nat} {ty : TypeId} {v0 v1 v2 v3 : Value} (h : Blk w g ty #[v0, v1, v2, v3]) : w.cell? ⟨g, 0, none⟩ = some v0 ∧ w.cell? ⟨g, 1, none⟩ = some v1 ∧ w.cell? ⟨g, 2, none⟩ = some v2 ∧ w.cell? ⟨g, 3, none⟩ = some v3 ∧ w.frozen? ⟨g, 0, none⟩ = false ∧ w.frozen? ⟨g, 1, none⟩ = false ∧ w.frozen? ⟨g, 2, none⟩ = false ∧ w.frozen? ⟨g, 3, none⟩ = false :=
  ⟨(h.cell 0).trans rfl, (h.cell 1).trans rfl, (h.cell 2).trans rfl, (h.cell 3).trans rfl, h.frozen 0, h.frozen 1, h.frozen 2, h.frozen 3⟩
set_option maxRecDepth 100000 in
set_option maxHeartbeats 16000000 in
theorem makes_any (A : Option Addr) (cap : Nat) (l : List Ac) (w : World) (hl : l.length ≤ 9223372036854775807) (hr : ActsAt w A l) (hT : Tabs w) (hok : ∀ a ∈ l, AcOk a) (hnm : ∀ a ∈ l, a.name.size ≤ 9223372036854775807) :
    Calls Tryd.prog 8 #[.slice A l.length cap] w fun e w' => e = .returned (.bool true) ∧ Below w.heap.size w w' := by
  have HTT := Lib.hid hT
  have HSH := Lib.hid (shown_any w hT)
  have hri := fun (wx : World) (hb : Below w.heap.size w wx) => rightA_any A cap l wx hl (hr.below hb) hnm
  obtain ⟨R, hR⟩ : ∃ R, rightA l = R := ⟨_, rfl⟩
  rw [hR] at hri
  have HRI := Lib.hid hri
  have HRR := Lib.hid hR
  have HAR := Lib.hid hr
  have HOK := Lib.hid hok
  obtain ⟨n, hn⟩ : ∃ n, l.length = n := ⟨_, rfl⟩
  have HN0 := Lib.hid hn
  rw [hn] at HRI hl ⊢
  clear hT hr hok hnm hri hR hn
  go_enter Tryd.func8, Tryd.ntmps8
  go_wp2_with fail
  refine HSH.out.mono ?_
  rintro e w1 ⟨rfl, hb1⟩
  have HB1 := Lib.hid hb1
  have HRW := Lib.hid (HRI.out w1 hb1)
  clear hb1 HSH HRI
  go_wp2_with fail
  refine HRW.out.mono ?_
  rintro e w2 ⟨rfl, hb2⟩
  have HB := Lib.hid (HB1.out.trans (hb2.mono HB1.out.size))
  clear hb2 HB1 HRW
  cases R with
  | false =>
    go_wp2_with fail
    go_ret
    exact ⟨rfl, HB.out⟩
  | true =>
    have hri := HRR.out
    unfold rightA at hri
    rw [Bool.and_eq_true, decide_eq_true_eq, List.all_eq_true] at hri
    have hn60 : n ≤ 60 := by rw [← HN0.out]; exact hri.1
    have HNM := Lib.hid (show ∀ a ∈ l, a.name.size ≤ 1000000 from fun a ha => Nat.le_trans (by simpa using hri.2 a ha) (by decide))
    clear hri HRR
    obtain ⟨⟨l1, lv, nx, nw⟩, hG⟩ : ∃ G, grownN l = G := ⟨_, rfl⟩
    have hI1 : Inv ⟨l1, lv, nx, nw⟩ := by rw [← hG]; exact grown_inv l newT new_inv
    have hmk := makes_all hI1
    have hrt := (right_iff _).2 hI1.right
    have HMK := Lib.hid hmk
    have HRT := Lib.hid hrt
    clear hmk hrt hI1
    have hR1 : RightP ⟨l1, lv, nx, nw⟩ := by rw [← hG]; exact grown_right l newT new_right
    have hS1 : SmallT ⟨l1, lv, nx, nw⟩ := by rw [← hG]; exact grown_small l newT new_small HNM.out
    obtain ⟨n1, hn1⟩ : ∃ n1, l1.length = n1 := ⟨_, rfl⟩
    have hn60' : n1 ≤ 60 := by have h1 := hR1.len; dsimp only at h1; omega
    have HG := Lib.hid hG
    have HN1 := Lib.hid hn1
    have HR1 := Lib.hid hR1
    have HS1 := Lib.hid hS1
    clear hG hn1 hR1 hS1
    have HC := Lib.hid (grown_c (n := n) (n' := n1) (cap := cap) HG.out HN0.out HN1.out (by omega) (HAR.out.below HB.out) (HTT.out.below HB.out) HOK.out HNM.out)
    go_wp2_with fail
    refine HC.out.mono ?_
    rintro e wn1 ⟨A1, c1, rfl, hc1, hq1, hbn⟩
    clear HC
    have bel := HB.out.trans (hbn.mono HB.out.size)
    clear HB hbn
    have HB := Lib.hid bel
    clear bel
    have HR_N := Lib.hid hq1
    clear hq1
    obtain ⟨g_T, hg⟩ : ∃ g, g = wn1.heap.size := ⟨_, rfl⟩
    have bs_T : w.heap.size ≤ g_T := by have := HB.out.size; omega
    have HG := Lib.hid hg
    clear hg
    go_upto_region 6 with fail
    have hbx : Below wn1.heap.size wn1 (wn1.alloc (.cells #[.slice A1 n1 c1, .int .i64 lv, .int .i64 nx, .int .u64 nw] 28)) := (Below.refl _ _).alloc (Nat.le_refl _) _
    have hkx := Blk.new wn1 28 #[.slice A1 n1 c1, .int .i64 lv, .int .i64 nx, .int .u64 nw]
    rw [← HG.out] at hkx ⊢
    generalize (wn1.alloc (.cells #[.slice A1 n1 c1, .int .i64 lv, .int .i64 nx, .int .u64 nw] 28)) = wn2 at hbx hkx ⊢
    clear HG
    have r_N := HR_N.out.below hbx
    have bel := HB.out.trans (hbx.mono HB.out.size)
    clear HR_N HB hbx
    have HR_N := Lib.hid r_N
    have HB := Lib.hid bel
    clear r_N bel
    have HK_T := Lib.hid hkx
    clear hkx
    have c_T0 : wn2.cell? ⟨g_T, 0, none⟩ = some (.slice A1 n1 c1) := (HK_T.out.cell 0).trans rfl
    have c_T1 : wn2.cell? ⟨g_T, 1, none⟩ = some (.int .i64 lv) := (HK_T.out.cell 1).trans rfl
    have c_T2 : wn2.cell? ⟨g_T, 2, none⟩ = some (.int .i64 nx) := (HK_T.out.cell 2).trans rfl
    have c_T3 : wn2.cell? ⟨g_T, 3, none⟩ = some (.int .u64 nw) := (HK_T.out.cell 3).trans rfl
    have hlt : g_T < wn2.heap.size := HK_T.out.lt
    have hkeep : ∀ w', Below wn2.heap.size wn2 w' → w'.cell? ⟨g_T, 0, none⟩ = some (.slice A1 n1 c1) ∧ w'.cell? ⟨g_T, 1, none⟩ = some (.int .i64 lv) ∧ w'.cell? ⟨g_T, 2, none⟩ = some (.int .i64 nx) ∧ w'.cell? ⟨g_T, 3, none⟩ = some (.int .u64 nw) := fun w' hb => ⟨(hb.cell (p := ⟨g_T, 0, none⟩) hlt).trans c_T0, (hb.cell (p := ⟨g_T, 1, none⟩) hlt).trans c_T1, (hb.cell (p := ⟨g_T, 2, none⟩) hlt).trans c_T2, (hb.cell (p := ⟨g_T, 3, none⟩) hlt).trans c_T3⟩
    obtain ⟨ks, hks⟩ : ∃ ks, (stepsN ⟨l1, lv, nx, nw⟩).length = ks := ⟨_, rfl⟩
    have hksl : ks ≤ 1099511627776 := by
      rw [← hks]
      unfold stepsN
      rw [List.length_append]
      have h1 := stepsL_len l1
      have h2 := HN1.out
      show (stepsL l1).length + 2 ≤ _
      omega
    have hst := fun (wx : World) (hb : Below wn2.heap.size wn2 wx) => steps_any A1 c1 l1 lv nx nw wx HS1.out.1 (HR_N.out.below hb)
    have hdn := fun (An SA : Option Addr) (cn sc : Nat) (wx : World) (hb : Below wn2.heap.size wn2 wx) (hc : 1 ≤ cn) (hn : NodesAt wx An newT.l) (hs : RowAt 62 encS wx SA (stepsN ⟨l1, lv, nx, nw⟩)) => done_c (l := newT.l) (lv := 1) (nx := 2) (nw := 0) (l' := l1) (lv' := lv) (nx' := nx) (nw' := nw) (er := 0) (n := 1) (n' := n1) (ks := ks) (km := 0) (mc := 0) (MA := none) (cap := cn) (sc := sc) HMK.out rfl HN1.out hks hc hn (HTT.out.below (HB.out.trans (hb.mono HB.out.size))) new_small hs hksl (steps_small HS1.out)
    rw [HN1.out, hks] at hst
    have HKP := Lib.hid hkeep
    have HST := Lib.hid hst
    have HDN := Lib.hid hdn
    have HNW := Lib.hid (fun (wx : World) => new_any wx)
    clear hkeep hst hdn hks
    go_upto_region 6 with fail
    go_cut [6, 7] from 8 (fun v6 v7 wx => ∃ (g c2 : Nat) (A2 : Option Addr), v6 = .pointer (some ⟨g, 0, none⟩) ∧ v7 = .int .i64 0 ∧ Hid (Blk wx g 28 #[.slice A2 n1 c2, .int .i64 lv, .int .i64 nx, .int .u64 nw]) ∧ Hid (n1 ≤ c2) ∧ Hid (NodesAt wx A2 l1) ∧ Hid (Below wn2.heap.size wn2 wx))
    case first =>
      go_region_held3 (fun w' => w'.cell? ⟨g_T, 0, none⟩ = some (.slice A1 n1 c1) ∧ w'.cell? ⟨g_T, 1, none⟩ = some (.int .i64 lv) ∧ w'.cell? ⟨g_T, 2, none⟩ = some (.int .i64 nx) ∧ w'.cell? ⟨g_T, 3, none⟩ = some (.int .u64 nw))
        (first | with_reducible exact HKP.out _ (below_drew1 (Below.refl _ _)) | with_reducible exact HKP.out _ (below_alloc (below_drew1 (Below.refl _ _)) _) | with_reducible exact HKP.out _ hblD | with_reducible exact HKP.out _ (below_alloc hblD _) | with_reducible exact HKP.out _ hblB | with_reducible exact HKP.out _ (below_alloc hblB _) | with_reducible exact HKP.out _ hblN | with_reducible exact HKP.out _ (below_alloc hblN _) | with_reducible exact HKP.out _ hblS | with_reducible exact HKP.out _ (below_alloc hblS _) | exact HKP.out _ (below_set4 hblD (by first | exact Nat.le_refl _ | exact hblN.size | exact hblS.size | exact hblB.size) _ _ _ _) | fail)
        (first
          | (go_at_call 11; refine (HNW.out _).mono ?_; (rintro e wN ⟨AN, cN, rfl, hcN, hnN, hbN⟩; (first | (have HZ := Lib.hid (HZ.out.below hbN HZ.out.lt)) | (have HZ := Lib.hid (show Blk wN wn2.heap.size 28 #[.slice none 0 0, .int .i64 0, .int .i64 0, .int .u64 0] from (hbN.block wn2.heap.size (by simp)).trans (heap_alloc_new wn2.drew _))) | (have HZ := Lib.hid (show Blk wN wS.heap.size 28 #[.slice none 0 0, .int .i64 0, .int .i64 0, .int .u64 0] from (hbN.block wS.heap.size (by simp)).trans (heap_alloc_new wS _))) | skip); (first | (have hblB : Below wn2.heap.size wn2 wN := (by first | exact hblS.trans (hbN.mono hblS.size) | exact (below_alloc hblS _).trans (hbN.mono (below_alloc hblS _).size)); have hrB : RowAt 62 encS wN SS (stepsN ⟨l1, lv, nx, nw⟩) := (by first | exact hrS.below hbN | exact (hrS.below (below_alloc (Below.refl _ _) _)).below hbN); have hnB := hnN) | (have hblN : Below wn2.heap.size wn2 wN := (by first | exact (below_drew1 (Below.refl _ _)).trans hbN | exact (below_alloc (below_drew1 (Below.refl _ _)) _).trans (hbN.mono (by simp)))))))
          | (go_at_call 33; refine (HST.out _ ?_).mono ?_; (first | exact below_drew1 (Below.refl _ _) | exact below_alloc (below_drew1 (Below.refl _ _)) _ | exact hblN | exact below_alloc hblN _); (rintro e wS ⟨SS, scS, rfl, hrS, hbS⟩; (first | (have HZ := Lib.hid (HZ.out.below hbS HZ.out.lt)) | (have HZ := Lib.hid (show Blk wS wn2.heap.size 28 #[.slice none 0 0, .int .i64 0, .int .i64 0, .int .u64 0] from (hbS.block wn2.heap.size (by simp)).trans (heap_alloc_new wn2.drew _))) | (have HZ := Lib.hid (show Blk wS wN.heap.size 28 #[.slice none 0 0, .int .i64 0, .int .i64 0, .int .u64 0] from (hbS.block wN.heap.size (by simp)).trans (heap_alloc_new wN _))) | skip); (first | (have hblB : Below wn2.heap.size wn2 wS := (by first | exact hblN.trans (hbS.mono hblN.size) | exact (below_alloc hblN _).trans (hbS.mono (below_alloc hblN _).size)); have hnB : NodesAt wS AN newT.l := (by first | exact hnN.below hbS | exact (hnN.below (below_alloc (Below.refl _ _) _)).below hbS); have hrB := hrS) | (have hblS : Below wn2.heap.size wn2 wS := (by first | exact (below_drew1 (Below.refl _ _)).trans hbS | exact (below_alloc (below_drew1 (Below.refl _ _)) _).trans (hbS.mono (by simp)))))))
          | (go_at_call 13; refine (HDN.out _ _ _ _ _ ?_ hcN ?_ ?_).mono ?_; (first | exact hblB | exact below_alloc hblB _); (first | exact hnB | exact hnB.below (below_alloc (Below.refl _ _) _)); (first | exact hrB | exact hrB.below (below_alloc (Below.refl _ _) _)); (rintro e wD ⟨AD, cD, rfl, hcD, hnD, hbD⟩; (first | (have HZ := Lib.hid (HZ.out.below hbD HZ.out.lt)) | (have HZ := Lib.hid (show Blk wD wn2.heap.size 28 #[.slice none 0 0, .int .i64 0, .int .i64 0, .int .u64 0] from (hbD.block wn2.heap.size (by simp)).trans (heap_alloc_new wn2.drew _))) | (have HZ := Lib.hid (show Blk wD wS.heap.size 28 #[.slice none 0 0, .int .i64 0, .int .i64 0, .int .u64 0] from (hbD.block wS.heap.size (by simp)).trans (heap_alloc_new wS _))) | (have HZ := Lib.hid (show Blk wD wN.heap.size 28 #[.slice none 0 0, .int .i64 0, .int .i64 0, .int .u64 0] from (hbD.block wN.heap.size (by simp)).trans (heap_alloc_new wN _))) | skip); have hblD : Below wn2.heap.size wn2 wD := (by first | exact hblB.trans (hbD.mono hblB.size) | exact (below_alloc hblB _).trans (hbD.mono (below_alloc hblB _).size)); (first | (have hzq := blk4 HZ.out; obtain ⟨z0, z1, z2, z3, y0, y1, y2, y3⟩ := hzq) | skip)))
          | fail)
      all_goals (go_wp2_with fail; go_meet)
      all_goals first
        | (have hzz := HZ.out; refine ⟨_, cD, AD, rfl, rfl, Lib.hid (blk_put4 hzz _ _ _ _), Lib.hid hcD, Lib.hid (hnD.set4 hzz (by decide) _ _ _ _), Lib.hid (below_set4 hblD (by first | exact Nat.le_refl _ | exact hblN.size | exact hblS.size | exact hblB.size) _ _ _ _)⟩)
        | exact ⟨wD.heap.size, cD, AD, rfl, rfl, Lib.hid (Blk.new wD _ _), Lib.hid hcD, Lib.hid (hnD.below (below_alloc (Below.refl _ _) _)), Lib.hid (below_alloc hblD _)⟩
    case rest =>
      obtain ⟨g_U, c2, A2, hv6, hv7, HKU, HC2, HQ2, HBU⟩ := hcut
      subst hv6 hv7
      clear c_T0 c_T1 c_T2 c_T3 HNW HST HDN HKP
      have k_T := HK_T.out.below HBU.out HK_T.out.lt
      have r_N := HR_N.out.below HBU.out
      have bel := HB.out.trans (HBU.out.mono HB.out.size)
      clear HK_T HR_N HB HBU
      have HK_T := Lib.hid k_T
      have HR_N := Lib.hid r_N
      have HB := Lib.hid bel
      have HK_U := HKU
      have HR_U := HQ2
      clear k_T r_N bel HKU HQ2
      have c_T0 : wc.cell? ⟨g_T, 0, none⟩ = some (.slice A1 n1 c1) := (HK_T.out.cell 0).trans rfl
      have c_T1 : wc.cell? ⟨g_T, 1, none⟩ = some (.int .i64 lv) := (HK_T.out.cell 1).trans rfl
      have c_T2 : wc.cell? ⟨g_T, 2, none⟩ = some (.int .i64 nx) := (HK_T.out.cell 2).trans rfl
      have c_T3 : wc.cell? ⟨g_T, 3, none⟩ = some (.int .u64 nw) := (HK_T.out.cell 3).trans rfl
      have c_U0 : wc.cell? ⟨g_U, 0, none⟩ = some (.slice A2 n1 c2) := (HK_U.out.cell 0).trans rfl
      have c_U1 : wc.cell? ⟨g_U, 1, none⟩ = some (.int .i64 lv) := (HK_U.out.cell 1).trans rfl
      have c_U2 : wc.cell? ⟨g_U, 2, none⟩ = some (.int .i64 nx) := (HK_U.out.cell 2).trans rfl
      have c_U3 : wc.cell? ⟨g_U, 3, none⟩ = some (.int .u64 nw) := (HK_U.out.cell 3).trans rfl
      go_upto_region 7 with fail
      have hl0 : g_T < wc.heap.size := HK_T.out.lt
      have hl1 : g_U < wc.heap.size := HK_U.out.lt
      have hkeep : ∀ w', Below wc.heap.size wc w' → w'.cell? ⟨g_T, 0, none⟩ = some (.slice A1 n1 c1) ∧ w'.cell? ⟨g_T, 1, none⟩ = some (.int .i64 lv) ∧ w'.cell? ⟨g_T, 2, none⟩ = some (.int .i64 nx) ∧ w'.cell? ⟨g_T, 3, none⟩ = some (.int .u64 nw) ∧ w'.cell? ⟨g_U, 0, none⟩ = some (.slice A2 n1 c2) ∧ w'.cell? ⟨g_U, 1, none⟩ = some (.int .i64 lv) ∧ w'.cell? ⟨g_U, 2, none⟩ = some (.int .i64 nx) ∧ w'.cell? ⟨g_U, 3, none⟩ = some (.int .u64 nw) := fun w' hb => ⟨(hb.cell (p := ⟨g_T, 0, none⟩) hl0).trans c_T0, (hb.cell (p := ⟨g_T, 1, none⟩) hl0).trans c_T1, (hb.cell (p := ⟨g_T, 2, none⟩) hl0).trans c_T2, (hb.cell (p := ⟨g_T, 3, none⟩) hl0).trans c_T3, (hb.cell (p := ⟨g_U, 0, none⟩) hl1).trans c_U0, (hb.cell (p := ⟨g_U, 1, none⟩) hl1).trans c_U1, (hb.cell (p := ⟨g_U, 2, none⟩) hl1).trans c_U2, (hb.cell (p := ⟨g_U, 3, none⟩) hl1).trans c_U3⟩
      have HKP := Lib.hid hkeep
      have has := fun (wx : World) (hb : Below wc.heap.size wc wx) => as_c (lv := lv) (nx := nx) (nw := nw) (cap := c1) HN1.out (by omega) (HR_N.out.below hb)
      have hsa := fun (B : Option Addr) (cb : Nat) (wx : World) (hb : Below wc.heap.size wc wx) (hq : RefsAt wx B l1) => same_c (lv := lv) (nx := nx) (nw := nw) (cap := c2) (cb := cb) HN1.out (by omega) (HR_U.out.below hb) hq
      have hrg := fun (wx : World) (hb : Below wc.heap.size wc wx) => right_c (cap := c1) HRT.out HN1.out hc1 (HR_N.out.below hb) (HTT.out.below (HB.out.trans (hb.mono HB.out.size))) HS1.out
      have HAS := Lib.hid has
      have HSA := Lib.hid hsa
      have HRG := Lib.hid hrg
      clear hkeep has hsa hrg
      go_region_held3 (fun w' => w'.cell? ⟨g_T, 0, none⟩ = some (.slice A1 n1 c1) ∧ w'.cell? ⟨g_T, 1, none⟩ = some (.int .i64 lv) ∧ w'.cell? ⟨g_T, 2, none⟩ = some (.int .i64 nx) ∧ w'.cell? ⟨g_T, 3, none⟩ = some (.int .u64 nw) ∧ w'.cell? ⟨g_U, 0, none⟩ = some (.slice A2 n1 c2) ∧ w'.cell? ⟨g_U, 1, none⟩ = some (.int .i64 lv) ∧ w'.cell? ⟨g_U, 2, none⟩ = some (.int .i64 nx) ∧ w'.cell? ⟨g_U, 3, none⟩ = some (.int .u64 nw))
        (first | with_reducible exact HKP.out _ (below_drew1 (Below.refl _ _)) | with_reducible exact HKP.out _ hbl3 | with_reducible exact HKP.out _ hbl2 | with_reducible exact HKP.out _ hbl1 | fail)
        (first
          | (go_at_call 16; refine (HAS.out _ ?_).mono ?_; (first | exact below_drew1 (Below.refl _ _) | exact hbl1); (rintro e w5 ⟨B5, cb5, rfl, hq5, hb5⟩; (first | (have hbl2 : Below wc.heap.size wc w5 := hbl1.trans (hb5.mono hbl1.size)) | (have hbl1 : Below wc.heap.size wc w5 := (below_drew1 (Below.refl _ _)).trans hb5)); have HQ5 := Lib.hid hq5; clear hq5 hb5))
          | (go_at_call 32; refine (HRG.out _ ?_).mono ?_; (first | exact below_drew1 (Below.refl _ _) | exact hbl2 | exact hbl1); (rintro e w7 ⟨rfl, hb7⟩; (first | (have hbl3 : Below wc.heap.size wc w7 := hbl2.trans (hb7.mono hbl2.size)) | (have hbl2 : Below wc.heap.size wc w7 := hbl1.trans (hb7.mono hbl1.size)) | (have hbl1 : Below wc.heap.size wc w7 := (below_drew1 (Below.refl _ _)).trans hb7)); (first | (have HQ5 := Lib.hid (HQ5.out.below hb7)) | skip)))
          | (go_at_call 15; refine (HSA.out _ _ _ ?_ HQ5.out).mono ?_; (first | exact hbl2 | exact hbl1); (rintro e w6 ⟨rfl, hb6⟩; (first | (have hbl3 : Below wc.heap.size wc w6 := hbl2.trans (hb6.mono hbl2.size)) | (have hbl2 : Below wc.heap.size wc w6 := hbl1.trans (hb6.mono hbl1.size)))))
          | fail)
      all_goals have HB6 := Lib.hid hbl3
      all_goals clear hbl3 hbl2 hbl1
      all_goals go_wp2_with fail
      all_goals go_ret
      all_goals exact ⟨rfl, HB.out.trans (HB6.out.mono HB.out.size)⟩
end Go.Proofs.YtfdhehjfbcddgaaDoor.Pr
