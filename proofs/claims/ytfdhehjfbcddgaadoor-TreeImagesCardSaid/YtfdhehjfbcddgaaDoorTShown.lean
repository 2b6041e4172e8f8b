/- rootcellarlaw14.shown: chapter 14's examples, at the head of all statements. Condition: the tables of unicode/utf8 lie in memory. -/
import Derived.Test.YtfdhehjfbcddgaaDoorTCalls
namespace Go.Proofs.YtfdhehjfbcddgaaDoor.Pr
open Go.RowKit Go.Proofs.YtfdhehjfbcddgaaDoorW.PrintWords Go.Proofs.YtfdhehjfbcddgaaDoorW.PrintLast Go.Proofs.YtfdhehjfbcddgaaDoor
set_option linter.unusedVariables false
def sA : ByteArray := ⟨#[97]⟩
def sB : ByteArray := ⟨#[98]⟩
def nd1 : Nd := ⟨1, 0, rootS, 0, false, false⟩
def nd2 : Nd := ⟨2, 1, sA, 0, false, false⟩
def nd3 : Nd := ⟨3, 2, sB, 0, false, false⟩
def ps1 : List St := [⟨1, 2, 1, 0, sA⟩, ⟨6, 2, 0, 0, ⟨#[]⟩⟩]
def ps2 : List St := [⟨1, 3, 2, 0, sB⟩, ⟨6, 3, 0, 0, ⟨#[]⟩⟩]
theorem sh1 : snapN ⟨[nd1], 1, 2, 0⟩ sA = (⟨[], ps1⟩, 0) := by kernel_rfl
theorem sh2 : doneN ⟨[nd1], 1, 2, 0⟩ ps1 = (⟨[nd1, nd2], 2, 3, 0⟩, 0) := by kernel_rfl
theorem sh3 : snapN ⟨[nd1, nd2], 2, 3, 0⟩ sB = (⟨[], ps2⟩, 0) := by kernel_rfl
theorem sh4 : doneN ⟨[nd1, nd2], 2, 3, 0⟩ ps2 = (⟨[nd1, nd2, nd3], 3, 4, 0⟩, 0) := by kernel_rfl
theorem sh5 : deleteN ⟨[nd1, nd2, nd3], 3, 4, 0⟩ 2 = (⟨[⟨3, 2⟩], [st3 4 3 1, st3 3 2 0]⟩, 0) := by kernel_rfl
theorem sh6 : revertN ⟨[nd1, nd2, nd3], 3, 4, 0⟩ 2 = (⟨[], [st3 6 2 0]⟩, 0) := by kernel_rfl
theorem sh7 : doneN ⟨[nd1, nd2, nd3], 3, 4, 0⟩ [st3 6 2 0] = (⟨[nd1, nd2, nd3], 2, 4, 0⟩, 0) := by kernel_rfl
theorem sh8 : deleteN ⟨[nd1, nd2, nd3], 2, 4, 0⟩ 2 = (⟨[], [st3 2 2 0]⟩, 0) := by kernel_rfl
theorem sm3 {lv nx nw : Int} {l : List Nd} (h : l = [nd1] ∨ l = [nd1, nd2] ∨ l = [nd1, nd2, nd3]) : SmallT ⟨l, lv, nx, nw⟩ := by
  refine ⟨?_, fun x hx => ?_⟩
  · rcases h with rfl | rfl | rfl
    · show (1 : Nat) ≤ _; decide
    · show (2 : Nat) ≤ _; decide
    · show (3 : Nat) ≤ _; decide
  · have hm : x = nd1 ∨ x = nd2 ∨ x = nd3 := by
      rcases h with rfl | rfl | rfl
      · simp only [List.mem_cons, List.not_mem_nil, or_false] at hx; exact .inl hx
      · simp only [List.mem_cons, List.not_mem_nil, or_false] at hx
        rcases hx with h | h
        · exact .inl h
        · exact .inr (.inl h)
      · simp only [List.mem_cons, List.not_mem_nil, or_false] at hx; exact hx
    rcases hm with rfl | rfl | rfl
    · show (4 : Nat) ≤ _; decide
    · show (1 : Nat) ≤ _; decide
    · show (1 : Nat) ≤ _; decide
theorem tx2 {ps : List St} (h : ps = ps1 ∨ ps = ps2 ∨ ps = [st3 6 2 0]) : ∀ s ∈ ps, s.text.size ≤ 1000000 := by
  intro s hs
  have hm : s.text.size ≤ 1 := by
    rcases h with rfl | rfl | rfl
    · simp only [ps1, List.mem_cons, List.not_mem_nil, or_false] at hs
      rcases hs with rfl | rfl
      · show (1 : Nat) ≤ 1; decide
      · show (0 : Nat) ≤ 1; decide
    · simp only [ps2, List.mem_cons, List.not_mem_nil, or_false] at hs
      rcases hs with rfl | rfl
      · show (1 : Nat) ≤ 1; decide
      · show (0 : Nat) ≤ 1; decide
    · simp only [List.mem_cons, List.not_mem_nil, or_false] at hs
      subst hs
      show (0 : Nat) ≤ 1; decide
  exact Nat.le_trans hm (by decide)
set_option maxRecDepth 100000 in
set_option maxHeartbeats 8000000 in
theorem shown_any (w : World) (hT : Tabs w) : Calls Tryd.prog 9 #[] w fun e w' => e = .returned (.bool true) ∧ Below w.heap.size w w' := by
  have HTT := Lib.hid hT
  have HB := Lib.hid (Below.refl w.heap.size w)
  have HNW := Lib.hid (new_any w)
  clear hT
  go_enter Tryd.func9, Tryd.ntmps9
  have HC := Lib.hid (HNW.out)
  go_wp2_with fail
  refine HC.out.mono ?_
  rintro e wn1 ⟨A1, c1, rfl, hc1, hn1, hbn⟩
  clear HC
  have bel := HB.out.trans (hbn.mono HB.out.size)
  clear HB hbn
  have HB := Lib.hid bel
  clear bel
  have HR_N1 := Lib.hid hn1
  clear hn1
  obtain ⟨g_T, hg⟩ : ∃ g, g = wn1.heap.size := ⟨_, rfl⟩
  have bs_T : w.heap.size ≤ g_T := by have := HB.out.size; omega
  have HG := Lib.hid hg
  clear hg
  go_upto_region 2 with fail
  have hbx : Below wn1.heap.size wn1 (wn1.alloc (.cells #[.slice A1 1 c1, .int .i64 1, .int .i64 2, .int .u64 0] 28)) := (Below.refl _ _).alloc (Nat.le_refl _) _
  have hkx := Blk.new wn1 28 #[.slice A1 1 c1, .int .i64 1, .int .i64 2, .int .u64 0]
  rw [← HG.out] at hkx ⊢
  generalize (wn1.alloc (.cells #[.slice A1 1 c1, .int .i64 1, .int .i64 2, .int .u64 0] 28)) = wn2 at hbx hkx ⊢
  clear HG
  have r_N1 := HR_N1.out.below hbx
  have bel := HB.out.trans (hbx.mono HB.out.size)
  clear HR_N1 HB hbx
  have HR_N1 := Lib.hid r_N1
  have HB := Lib.hid bel
  clear r_N1 bel
  have HK_T := Lib.hid hkx
  clear hkx
  have c_T0 : wn2.cell? ⟨g_T, 0, none⟩ = some (.slice A1 1 c1) := (HK_T.out.cell 0).trans rfl
  have c_T1 : wn2.cell? ⟨g_T, 1, none⟩ = some (.int .i64 1) := (HK_T.out.cell 1).trans rfl
  have c_T2 : wn2.cell? ⟨g_T, 2, none⟩ = some (.int .i64 2) := (HK_T.out.cell 2).trans rfl
  have c_T3 : wn2.cell? ⟨g_T, 3, none⟩ = some (.int .u64 0) := (HK_T.out.cell 3).trans rfl
  have HC := Lib.hid (snap_c (n := 1) (km := 0) (ks := 2) (nm := sA) sh1 rfl rfl rfl hc1 HR_N1.out (HTT.out.below HB.out) (sm3 (.inl rfl)) (by decide))
  go_wp2_with fail
  refine HC.out.mono ?_
  rintro e wn3 ⟨M1, m1, S1, s1, rfl, hm1, hs1, hbn⟩
  clear c_T0 c_T1 c_T2 c_T3 HC
  have k_T := HK_T.out.below hbn HK_T.out.lt
  have r_N1 := HR_N1.out.below hbn
  have bel := HB.out.trans (hbn.mono HB.out.size)
  clear HK_T HR_N1 HB hbn
  have HK_T := Lib.hid k_T
  have HR_N1 := Lib.hid r_N1
  have HB := Lib.hid bel
  clear k_T r_N1 bel
  have HR_S1 := Lib.hid hs1
  clear hs1
  clear hm1
  obtain ⟨g_P, hg⟩ : ∃ g, g = wn3.heap.size := ⟨_, rfl⟩
  have lt_T_P : g_T < g_P := by have := HK_T.out.lt; omega
  have bs_P : w.heap.size ≤ g_P := by have := HB.out.size; omega
  have HG := Lib.hid hg
  clear hg
  go_upto_region 3 with fail
  have hbx : Below wn3.heap.size wn3 (wn3.alloc (.cells #[.slice M1 0 m1, .slice S1 2 s1] 33)) := (Below.refl _ _).alloc (Nat.le_refl _) _
  have hkx := Blk.new wn3 33 #[.slice M1 0 m1, .slice S1 2 s1]
  rw [← HG.out] at hkx ⊢
  generalize (wn3.alloc (.cells #[.slice M1 0 m1, .slice S1 2 s1] 33)) = wn4 at hbx hkx ⊢
  clear HG
  have k_T := HK_T.out.below hbx HK_T.out.lt
  have r_N1 := HR_N1.out.below hbx
  have r_S1 := HR_S1.out.below hbx
  have bel := HB.out.trans (hbx.mono HB.out.size)
  clear HK_T HR_N1 HR_S1 HB hbx
  have HK_T := Lib.hid k_T
  have HR_N1 := Lib.hid r_N1
  have HR_S1 := Lib.hid r_S1
  have HB := Lib.hid bel
  clear k_T r_N1 r_S1 bel
  have HK_P := Lib.hid hkx
  clear hkx
  have c_T0 : wn4.cell? ⟨g_T, 0, none⟩ = some (.slice A1 1 c1) := (HK_T.out.cell 0).trans rfl
  have f_T0 := HK_T.out.frozen 0
  have c_T1 : wn4.cell? ⟨g_T, 1, none⟩ = some (.int .i64 1) := (HK_T.out.cell 1).trans rfl
  have f_T1 := HK_T.out.frozen 1
  have c_T2 : wn4.cell? ⟨g_T, 2, none⟩ = some (.int .i64 2) := (HK_T.out.cell 2).trans rfl
  have f_T2 := HK_T.out.frozen 2
  have c_T3 : wn4.cell? ⟨g_T, 3, none⟩ = some (.int .u64 0) := (HK_T.out.cell 3).trans rfl
  have f_T3 := HK_T.out.frozen 3
  have c_P0 : wn4.cell? ⟨g_P, 0, none⟩ = some (.slice M1 0 m1) := (HK_P.out.cell 0).trans rfl
  have c_P1 : wn4.cell? ⟨g_P, 1, none⟩ = some (.slice S1 2 s1) := (HK_P.out.cell 1).trans rfl
  have HC := Lib.hid (done_c (n := 1) (n' := 2) (ks := 2) (sc := s1) (km := 0) (mc := m1) (MA := M1) sh2 rfl rfl rfl hc1 HR_N1.out (HTT.out.below HB.out) (sm3 (.inl rfl)) HR_S1.out (by decide) (tx2 (.inl rfl)))
  go_wp2_with fail
  refine HC.out.mono ?_
  rintro e wn5 ⟨A2, c2, rfl, hc2, hn2, hbn⟩
  clear c_T0 f_T0 c_T1 f_T1 c_T2 f_T2 c_T3 f_T3 c_P0 c_P1 HC
  have k_T := HK_T.out.below hbn HK_T.out.lt
  have k_P := HK_P.out.below hbn HK_P.out.lt
  have r_N1 := HR_N1.out.below hbn
  have r_S1 := HR_S1.out.below hbn
  have bel := HB.out.trans (hbn.mono HB.out.size)
  clear HK_T HK_P HR_N1 HR_S1 HB hbn
  have HK_T := Lib.hid k_T
  have HK_P := Lib.hid k_P
  have HR_N1 := Lib.hid r_N1
  have HR_S1 := Lib.hid r_S1
  have HB := Lib.hid bel
  clear k_T k_P r_N1 r_S1 bel
  have HR_N2 := Lib.hid hn2
  clear hn2
  have c_T0 : wn5.cell? ⟨g_T, 0, none⟩ = some (.slice A1 1 c1) := (HK_T.out.cell 0).trans rfl
  have f_T0 := HK_T.out.frozen 0
  have c_T1 : wn5.cell? ⟨g_T, 1, none⟩ = some (.int .i64 1) := (HK_T.out.cell 1).trans rfl
  have f_T1 := HK_T.out.frozen 1
  have c_T2 : wn5.cell? ⟨g_T, 2, none⟩ = some (.int .i64 2) := (HK_T.out.cell 2).trans rfl
  have f_T2 := HK_T.out.frozen 2
  have c_T3 : wn5.cell? ⟨g_T, 3, none⟩ = some (.int .u64 0) := (HK_T.out.cell 3).trans rfl
  have f_T3 := HK_T.out.frozen 3
  go_upto_region 4 with fail
  have k_T := blk_put4 HK_T.out (.slice A2 2 c2) (.int .i64 2) (.int .i64 3) (.int .u64 0)
  have k_P := blk_set4 HK_P.out (show g_P ≠ g_T by omega) (.slice A2 2 c2) (.int .i64 2) (.int .i64 3) (.int .u64 0)
  have r_N1 := HR_N1.out.set4 HK_T.out (by decide) (.slice A2 2 c2) (.int .i64 2) (.int .i64 3) (.int .u64 0)
  have r_S1 := HR_S1.out.set4 HK_T.out (by decide) (.slice A2 2 c2) (.int .i64 2) (.int .i64 3) (.int .u64 0)
  have r_N2 := HR_N2.out.set4 HK_T.out (by decide) (.slice A2 2 c2) (.int .i64 2) (.int .i64 3) (.int .u64 0)
  have bel := below_set4 HB.out (show w.heap.size ≤ g_T by omega) (.slice A2 2 c2) (.int .i64 2) (.int .i64 3) (.int .u64 0)
  generalize ((((wn5.setCell ⟨g_T, 0, none⟩ (.slice A2 2 c2)).setCell ⟨g_T, 1, none⟩ (.int .i64 2)).setCell ⟨g_T, 2, none⟩ (.int .i64 3)).setCell ⟨g_T, 3, none⟩ (.int .u64 0)) = wn6 at k_T k_P r_N1 r_S1 r_N2 bel ⊢
  clear c_T0 f_T0 c_T1 f_T1 c_T2 f_T2 c_T3 f_T3
  clear HK_T HK_P HR_N1 HR_S1 HR_N2 HB
  have HK_T := Lib.hid k_T
  have HK_P := Lib.hid k_P
  have HR_N1 := Lib.hid r_N1
  have HR_S1 := Lib.hid r_S1
  have HR_N2 := Lib.hid r_N2
  have HB := Lib.hid bel
  clear k_T k_P r_N1 r_S1 r_N2 bel
  have c_T0 : wn6.cell? ⟨g_T, 0, none⟩ = some (.slice A2 2 c2) := (HK_T.out.cell 0).trans rfl
  have c_T1 : wn6.cell? ⟨g_T, 1, none⟩ = some (.int .i64 2) := (HK_T.out.cell 1).trans rfl
  have c_T2 : wn6.cell? ⟨g_T, 2, none⟩ = some (.int .i64 3) := (HK_T.out.cell 2).trans rfl
  have c_T3 : wn6.cell? ⟨g_T, 3, none⟩ = some (.int .u64 0) := (HK_T.out.cell 3).trans rfl
  have HC := Lib.hid (snap_c (n := 2) (km := 0) (ks := 2) (nm := sB) sh3 rfl rfl rfl hc2 HR_N2.out (HTT.out.below HB.out) (sm3 (.inr (.inl rfl))) (by decide))
  go_wp2_with fail
  refine HC.out.mono ?_
  rintro e wn7 ⟨M2, m2, S2, s2, rfl, hm2, hs2, hbn⟩
  clear c_T0 c_T1 c_T2 c_T3 HC
  have k_T := HK_T.out.below hbn HK_T.out.lt
  have k_P := HK_P.out.below hbn HK_P.out.lt
  have r_N1 := HR_N1.out.below hbn
  have r_S1 := HR_S1.out.below hbn
  have r_N2 := HR_N2.out.below hbn
  have bel := HB.out.trans (hbn.mono HB.out.size)
  clear HK_T HK_P HR_N1 HR_S1 HR_N2 HB hbn
  have HK_T := Lib.hid k_T
  have HK_P := Lib.hid k_P
  have HR_N1 := Lib.hid r_N1
  have HR_S1 := Lib.hid r_S1
  have HR_N2 := Lib.hid r_N2
  have HB := Lib.hid bel
  clear k_T k_P r_N1 r_S1 r_N2 bel
  have HR_S2 := Lib.hid hs2
  clear hs2
  clear hm2
  obtain ⟨g_Q, hg⟩ : ∃ g, g = wn7.heap.size := ⟨_, rfl⟩
  have lt_T_Q : g_T < g_Q := by have := HK_T.out.lt; omega
  have lt_P_Q : g_P < g_Q := by have := HK_P.out.lt; omega
  have bs_Q : w.heap.size ≤ g_Q := by have := HB.out.size; omega
  have HG := Lib.hid hg
  clear hg
  go_upto_region 5 with fail
  have hbx : Below wn7.heap.size wn7 (wn7.alloc (.cells #[.slice M2 0 m2, .slice S2 2 s2] 33)) := (Below.refl _ _).alloc (Nat.le_refl _) _
  have hkx := Blk.new wn7 33 #[.slice M2 0 m2, .slice S2 2 s2]
  rw [← HG.out] at hkx ⊢
  generalize (wn7.alloc (.cells #[.slice M2 0 m2, .slice S2 2 s2] 33)) = wn8 at hbx hkx ⊢
  clear HG
  have k_T := HK_T.out.below hbx HK_T.out.lt
  have k_P := HK_P.out.below hbx HK_P.out.lt
  have r_N1 := HR_N1.out.below hbx
  have r_S1 := HR_S1.out.below hbx
  have r_N2 := HR_N2.out.below hbx
  have r_S2 := HR_S2.out.below hbx
  have bel := HB.out.trans (hbx.mono HB.out.size)
  clear HK_T HK_P HR_N1 HR_S1 HR_N2 HR_S2 HB hbx
  have HK_T := Lib.hid k_T
  have HK_P := Lib.hid k_P
  have HR_N1 := Lib.hid r_N1
  have HR_S1 := Lib.hid r_S1
  have HR_N2 := Lib.hid r_N2
  have HR_S2 := Lib.hid r_S2
  have HB := Lib.hid bel
  clear k_T k_P r_N1 r_S1 r_N2 r_S2 bel
  have HK_Q := Lib.hid hkx
  clear hkx
  have c_T0 : wn8.cell? ⟨g_T, 0, none⟩ = some (.slice A2 2 c2) := (HK_T.out.cell 0).trans rfl
  have f_T0 := HK_T.out.frozen 0
  have c_T1 : wn8.cell? ⟨g_T, 1, none⟩ = some (.int .i64 2) := (HK_T.out.cell 1).trans rfl
  have f_T1 := HK_T.out.frozen 1
  have c_T2 : wn8.cell? ⟨g_T, 2, none⟩ = some (.int .i64 3) := (HK_T.out.cell 2).trans rfl
  have f_T2 := HK_T.out.frozen 2
  have c_T3 : wn8.cell? ⟨g_T, 3, none⟩ = some (.int .u64 0) := (HK_T.out.cell 3).trans rfl
  have f_T3 := HK_T.out.frozen 3
  have c_Q0 : wn8.cell? ⟨g_Q, 0, none⟩ = some (.slice M2 0 m2) := (HK_Q.out.cell 0).trans rfl
  have c_Q1 : wn8.cell? ⟨g_Q, 1, none⟩ = some (.slice S2 2 s2) := (HK_Q.out.cell 1).trans rfl
  have HC := Lib.hid (done_c (n := 2) (n' := 3) (ks := 2) (sc := s2) (km := 0) (mc := m2) (MA := M2) sh4 rfl rfl rfl hc2 HR_N2.out (HTT.out.below HB.out) (sm3 (.inr (.inl rfl))) HR_S2.out (by decide) (tx2 (.inr (.inl rfl))))
  go_wp2_with fail
  refine HC.out.mono ?_
  rintro e wn9 ⟨A3, c3, rfl, hc3, hn3, hbn⟩
  clear c_T0 f_T0 c_T1 f_T1 c_T2 f_T2 c_T3 f_T3 c_Q0 c_Q1 HC
  have k_T := HK_T.out.below hbn HK_T.out.lt
  have k_P := HK_P.out.below hbn HK_P.out.lt
  have k_Q := HK_Q.out.below hbn HK_Q.out.lt
  have r_N1 := HR_N1.out.below hbn
  have r_S1 := HR_S1.out.below hbn
  have r_N2 := HR_N2.out.below hbn
  have r_S2 := HR_S2.out.below hbn
  have bel := HB.out.trans (hbn.mono HB.out.size)
  clear HK_T HK_P HK_Q HR_N1 HR_S1 HR_N2 HR_S2 HB hbn
  have HK_T := Lib.hid k_T
  have HK_P := Lib.hid k_P
  have HK_Q := Lib.hid k_Q
  have HR_N1 := Lib.hid r_N1
  have HR_S1 := Lib.hid r_S1
  have HR_N2 := Lib.hid r_N2
  have HR_S2 := Lib.hid r_S2
  have HB := Lib.hid bel
  clear k_T k_P k_Q r_N1 r_S1 r_N2 r_S2 bel
  have HR_N3 := Lib.hid hn3
  clear hn3
  have c_T0 : wn9.cell? ⟨g_T, 0, none⟩ = some (.slice A2 2 c2) := (HK_T.out.cell 0).trans rfl
  have f_T0 := HK_T.out.frozen 0
  have c_T1 : wn9.cell? ⟨g_T, 1, none⟩ = some (.int .i64 2) := (HK_T.out.cell 1).trans rfl
  have f_T1 := HK_T.out.frozen 1
  have c_T2 : wn9.cell? ⟨g_T, 2, none⟩ = some (.int .i64 3) := (HK_T.out.cell 2).trans rfl
  have f_T2 := HK_T.out.frozen 2
  have c_T3 : wn9.cell? ⟨g_T, 3, none⟩ = some (.int .u64 0) := (HK_T.out.cell 3).trans rfl
  have f_T3 := HK_T.out.frozen 3
  go_upto_region 6 with fail
  have k_T := blk_put4 HK_T.out (.slice A3 3 c3) (.int .i64 3) (.int .i64 4) (.int .u64 0)
  have k_P := blk_set4 HK_P.out (show g_P ≠ g_T by omega) (.slice A3 3 c3) (.int .i64 3) (.int .i64 4) (.int .u64 0)
  have k_Q := blk_set4 HK_Q.out (show g_Q ≠ g_T by omega) (.slice A3 3 c3) (.int .i64 3) (.int .i64 4) (.int .u64 0)
  have r_N1 := HR_N1.out.set4 HK_T.out (by decide) (.slice A3 3 c3) (.int .i64 3) (.int .i64 4) (.int .u64 0)
  have r_S1 := HR_S1.out.set4 HK_T.out (by decide) (.slice A3 3 c3) (.int .i64 3) (.int .i64 4) (.int .u64 0)
  have r_N2 := HR_N2.out.set4 HK_T.out (by decide) (.slice A3 3 c3) (.int .i64 3) (.int .i64 4) (.int .u64 0)
  have r_S2 := HR_S2.out.set4 HK_T.out (by decide) (.slice A3 3 c3) (.int .i64 3) (.int .i64 4) (.int .u64 0)
  have r_N3 := HR_N3.out.set4 HK_T.out (by decide) (.slice A3 3 c3) (.int .i64 3) (.int .i64 4) (.int .u64 0)
  have bel := below_set4 HB.out (show w.heap.size ≤ g_T by omega) (.slice A3 3 c3) (.int .i64 3) (.int .i64 4) (.int .u64 0)
  generalize ((((wn9.setCell ⟨g_T, 0, none⟩ (.slice A3 3 c3)).setCell ⟨g_T, 1, none⟩ (.int .i64 3)).setCell ⟨g_T, 2, none⟩ (.int .i64 4)).setCell ⟨g_T, 3, none⟩ (.int .u64 0)) = wn10 at k_T k_P k_Q r_N1 r_S1 r_N2 r_S2 r_N3 bel ⊢
  clear c_T0 f_T0 c_T1 f_T1 c_T2 f_T2 c_T3 f_T3
  clear HK_T HK_P HK_Q HR_N1 HR_S1 HR_N2 HR_S2 HR_N3 HB
  have HK_T := Lib.hid k_T
  have HK_P := Lib.hid k_P
  have HK_Q := Lib.hid k_Q
  have HR_N1 := Lib.hid r_N1
  have HR_S1 := Lib.hid r_S1
  have HR_N2 := Lib.hid r_N2
  have HR_S2 := Lib.hid r_S2
  have HR_N3 := Lib.hid r_N3
  have HB := Lib.hid bel
  clear k_T k_P k_Q r_N1 r_S1 r_N2 r_S2 r_N3 bel
  have c_T0 : wn10.cell? ⟨g_T, 0, none⟩ = some (.slice A3 3 c3) := (HK_T.out.cell 0).trans rfl
  have c_T1 : wn10.cell? ⟨g_T, 1, none⟩ = some (.int .i64 3) := (HK_T.out.cell 1).trans rfl
  have c_T2 : wn10.cell? ⟨g_T, 2, none⟩ = some (.int .i64 4) := (HK_T.out.cell 2).trans rfl
  have c_T3 : wn10.cell? ⟨g_T, 3, none⟩ = some (.int .u64 0) := (HK_T.out.cell 3).trans rfl
  have HC := Lib.hid (del_c (n := 3) (km := 1) (ks := 2) (a := 2) sh5 rfl rfl rfl hc3 HR_N3.out (HTT.out.below HB.out) (sm3 (.inr (.inr rfl))))
  go_wp2_with fail
  refine HC.out.mono ?_
  rintro e wn11 ⟨M3, m3, S3, s3, rfl, hm3, hs3, hbn⟩
  clear c_T0 c_T1 c_T2 c_T3 HC
  have k_T := HK_T.out.below hbn HK_T.out.lt
  have k_P := HK_P.out.below hbn HK_P.out.lt
  have k_Q := HK_Q.out.below hbn HK_Q.out.lt
  have r_N1 := HR_N1.out.below hbn
  have r_S1 := HR_S1.out.below hbn
  have r_N2 := HR_N2.out.below hbn
  have r_S2 := HR_S2.out.below hbn
  have r_N3 := HR_N3.out.below hbn
  have bel := HB.out.trans (hbn.mono HB.out.size)
  clear HK_T HK_P HK_Q HR_N1 HR_S1 HR_N2 HR_S2 HR_N3 HB hbn
  have HK_T := Lib.hid k_T
  have HK_P := Lib.hid k_P
  have HK_Q := Lib.hid k_Q
  have HR_N1 := Lib.hid r_N1
  have HR_S1 := Lib.hid r_S1
  have HR_N2 := Lib.hid r_N2
  have HR_S2 := Lib.hid r_S2
  have HR_N3 := Lib.hid r_N3
  have HB := Lib.hid bel
  clear k_T k_P k_Q r_N1 r_S1 r_N2 r_S2 r_N3 bel
  have HR_M3 := Lib.hid hm3
  clear hm3
  have HR_S3 := Lib.hid hs3
  clear hs3
  obtain ⟨g_D, hg⟩ : ∃ g, g = wn11.heap.size := ⟨_, rfl⟩
  have lt_T_D : g_T < g_D := by have := HK_T.out.lt; omega
  have lt_P_D : g_P < g_D := by have := HK_P.out.lt; omega
  have lt_Q_D : g_Q < g_D := by have := HK_Q.out.lt; omega
  have bs_D : w.heap.size ≤ g_D := by have := HB.out.size; omega
  have HG := Lib.hid hg
  clear hg
  go_upto_region 7 with fail
  have hbx : Below wn11.heap.size wn11 (wn11.alloc (.cells #[.slice M3 1 m3, .slice S3 2 s3] 33)) := (Below.refl _ _).alloc (Nat.le_refl _) _
  have hkx := Blk.new wn11 33 #[.slice M3 1 m3, .slice S3 2 s3]
  rw [← HG.out] at hkx ⊢
  generalize (wn11.alloc (.cells #[.slice M3 1 m3, .slice S3 2 s3] 33)) = wn12 at hbx hkx ⊢
  clear HG
  have k_T := HK_T.out.below hbx HK_T.out.lt
  have k_P := HK_P.out.below hbx HK_P.out.lt
  have k_Q := HK_Q.out.below hbx HK_Q.out.lt
  have r_N1 := HR_N1.out.below hbx
  have r_S1 := HR_S1.out.below hbx
  have r_N2 := HR_N2.out.below hbx
  have r_S2 := HR_S2.out.below hbx
  have r_N3 := HR_N3.out.below hbx
  have r_M3 := HR_M3.out.below hbx
  have r_S3 := HR_S3.out.below hbx
  have bel := HB.out.trans (hbx.mono HB.out.size)
  clear HK_T HK_P HK_Q HR_N1 HR_S1 HR_N2 HR_S2 HR_N3 HR_M3 HR_S3 HB hbx
  have HK_T := Lib.hid k_T
  have HK_P := Lib.hid k_P
  have HK_Q := Lib.hid k_Q
  have HR_N1 := Lib.hid r_N1
  have HR_S1 := Lib.hid r_S1
  have HR_N2 := Lib.hid r_N2
  have HR_S2 := Lib.hid r_S2
  have HR_N3 := Lib.hid r_N3
  have HR_M3 := Lib.hid r_M3
  have HR_S3 := Lib.hid r_S3
  have HB := Lib.hid bel
  clear k_T k_P k_Q r_N1 r_S1 r_N2 r_S2 r_N3 r_M3 r_S3 bel
  have HK_D := Lib.hid hkx
  clear hkx
  have c_T0 : wn12.cell? ⟨g_T, 0, none⟩ = some (.slice A3 3 c3) := (HK_T.out.cell 0).trans rfl
  have c_T1 : wn12.cell? ⟨g_T, 1, none⟩ = some (.int .i64 3) := (HK_T.out.cell 1).trans rfl
  have c_T2 : wn12.cell? ⟨g_T, 2, none⟩ = some (.int .i64 4) := (HK_T.out.cell 2).trans rfl
  have c_T3 : wn12.cell? ⟨g_T, 3, none⟩ = some (.int .u64 0) := (HK_T.out.cell 3).trans rfl
  have HC := Lib.hid (rev_c (n := 3) (km := 0) (ks := 1) (a := 2) sh6 rfl rfl rfl hc3 HR_N3.out (HTT.out.below HB.out) (sm3 (.inr (.inr rfl))))
  go_wp2_with fail
  refine HC.out.mono ?_
  rintro e wn13 ⟨M4, m4, S4, s4, rfl, hm4, hs4, hbn⟩
  clear c_T0 c_T1 c_T2 c_T3 HC
  have k_T := HK_T.out.below hbn HK_T.out.lt
  have k_P := HK_P.out.below hbn HK_P.out.lt
  have k_Q := HK_Q.out.below hbn HK_Q.out.lt
  have k_D := HK_D.out.below hbn HK_D.out.lt
  have r_N1 := HR_N1.out.below hbn
  have r_S1 := HR_S1.out.below hbn
  have r_N2 := HR_N2.out.below hbn
  have r_S2 := HR_S2.out.below hbn
  have r_N3 := HR_N3.out.below hbn
  have r_M3 := HR_M3.out.below hbn
  have r_S3 := HR_S3.out.below hbn
  have bel := HB.out.trans (hbn.mono HB.out.size)
  clear HK_T HK_P HK_Q HK_D HR_N1 HR_S1 HR_N2 HR_S2 HR_N3 HR_M3 HR_S3 HB hbn
  have HK_T := Lib.hid k_T
  have HK_P := Lib.hid k_P
  have HK_Q := Lib.hid k_Q
  have HK_D := Lib.hid k_D
  have HR_N1 := Lib.hid r_N1
  have HR_S1 := Lib.hid r_S1
  have HR_N2 := Lib.hid r_N2
  have HR_S2 := Lib.hid r_S2
  have HR_N3 := Lib.hid r_N3
  have HR_M3 := Lib.hid r_M3
  have HR_S3 := Lib.hid r_S3
  have HB := Lib.hid bel
  clear k_T k_P k_Q k_D r_N1 r_S1 r_N2 r_S2 r_N3 r_M3 r_S3 bel
  have HR_S4 := Lib.hid hs4
  clear hs4
  clear hm4
  obtain ⟨g_R, hg⟩ : ∃ g, g = wn13.heap.size := ⟨_, rfl⟩
  have lt_T_R : g_T < g_R := by have := HK_T.out.lt; omega
  have lt_P_R : g_P < g_R := by have := HK_P.out.lt; omega
  have lt_Q_R : g_Q < g_R := by have := HK_Q.out.lt; omega
  have lt_D_R : g_D < g_R := by have := HK_D.out.lt; omega
  have bs_R : w.heap.size ≤ g_R := by have := HB.out.size; omega
  have HG := Lib.hid hg
  clear hg
  go_upto_region 8 with fail
  have hbx : Below wn13.heap.size wn13 (wn13.alloc (.cells #[.slice M4 0 m4, .slice S4 1 s4] 33)) := (Below.refl _ _).alloc (Nat.le_refl _) _
  have hkx := Blk.new wn13 33 #[.slice M4 0 m4, .slice S4 1 s4]
  rw [← HG.out] at hkx ⊢
  generalize (wn13.alloc (.cells #[.slice M4 0 m4, .slice S4 1 s4] 33)) = wn14 at hbx hkx ⊢
  clear HG
  have k_T := HK_T.out.below hbx HK_T.out.lt
  have k_P := HK_P.out.below hbx HK_P.out.lt
  have k_Q := HK_Q.out.below hbx HK_Q.out.lt
  have k_D := HK_D.out.below hbx HK_D.out.lt
  have r_N1 := HR_N1.out.below hbx
  have r_S1 := HR_S1.out.below hbx
  have r_N2 := HR_N2.out.below hbx
  have r_S2 := HR_S2.out.below hbx
  have r_N3 := HR_N3.out.below hbx
  have r_M3 := HR_M3.out.below hbx
  have r_S3 := HR_S3.out.below hbx
  have r_S4 := HR_S4.out.below hbx
  have bel := HB.out.trans (hbx.mono HB.out.size)
  clear HK_T HK_P HK_Q HK_D HR_N1 HR_S1 HR_N2 HR_S2 HR_N3 HR_M3 HR_S3 HR_S4 HB hbx
  have HK_T := Lib.hid k_T
  have HK_P := Lib.hid k_P
  have HK_Q := Lib.hid k_Q
  have HK_D := Lib.hid k_D
  have HR_N1 := Lib.hid r_N1
  have HR_S1 := Lib.hid r_S1
  have HR_N2 := Lib.hid r_N2
  have HR_S2 := Lib.hid r_S2
  have HR_N3 := Lib.hid r_N3
  have HR_M3 := Lib.hid r_M3
  have HR_S3 := Lib.hid r_S3
  have HR_S4 := Lib.hid r_S4
  have HB := Lib.hid bel
  clear k_T k_P k_Q k_D r_N1 r_S1 r_N2 r_S2 r_N3 r_M3 r_S3 r_S4 bel
  have HK_R := Lib.hid hkx
  clear hkx
  have c_T0 : wn14.cell? ⟨g_T, 0, none⟩ = some (.slice A3 3 c3) := (HK_T.out.cell 0).trans rfl
  have c_T1 : wn14.cell? ⟨g_T, 1, none⟩ = some (.int .i64 3) := (HK_T.out.cell 1).trans rfl
  have c_T2 : wn14.cell? ⟨g_T, 2, none⟩ = some (.int .i64 4) := (HK_T.out.cell 2).trans rfl
  have c_T3 : wn14.cell? ⟨g_T, 3, none⟩ = some (.int .u64 0) := (HK_T.out.cell 3).trans rfl
  have c_R0 : wn14.cell? ⟨g_R, 0, none⟩ = some (.slice M4 0 m4) := (HK_R.out.cell 0).trans rfl
  have c_R1 : wn14.cell? ⟨g_R, 1, none⟩ = some (.slice S4 1 s4) := (HK_R.out.cell 1).trans rfl
  have HC := Lib.hid (done_c (n := 3) (n' := 3) (ks := 1) (sc := s4) (km := 0) (mc := m4) (MA := M4) sh7 rfl rfl rfl hc3 HR_N3.out (HTT.out.below HB.out) (sm3 (.inr (.inr rfl))) HR_S4.out (by decide) (tx2 (.inr (.inr rfl))))
  go_wp2_with fail
  refine HC.out.mono ?_
  rintro e wn15 ⟨A5, c5, rfl, hc5, hn5, hbn⟩
  clear c_T0 c_T1 c_T2 c_T3 c_R0 c_R1 HC
  have k_T := HK_T.out.below hbn HK_T.out.lt
  have k_P := HK_P.out.below hbn HK_P.out.lt
  have k_Q := HK_Q.out.below hbn HK_Q.out.lt
  have k_D := HK_D.out.below hbn HK_D.out.lt
  have k_R := HK_R.out.below hbn HK_R.out.lt
  have r_N1 := HR_N1.out.below hbn
  have r_S1 := HR_S1.out.below hbn
  have r_N2 := HR_N2.out.below hbn
  have r_S2 := HR_S2.out.below hbn
  have r_N3 := HR_N3.out.below hbn
  have r_M3 := HR_M3.out.below hbn
  have r_S3 := HR_S3.out.below hbn
  have r_S4 := HR_S4.out.below hbn
  have bel := HB.out.trans (hbn.mono HB.out.size)
  clear HK_T HK_P HK_Q HK_D HK_R HR_N1 HR_S1 HR_N2 HR_S2 HR_N3 HR_M3 HR_S3 HR_S4 HB hbn
  have HK_T := Lib.hid k_T
  have HK_P := Lib.hid k_P
  have HK_Q := Lib.hid k_Q
  have HK_D := Lib.hid k_D
  have HK_R := Lib.hid k_R
  have HR_N1 := Lib.hid r_N1
  have HR_S1 := Lib.hid r_S1
  have HR_N2 := Lib.hid r_N2
  have HR_S2 := Lib.hid r_S2
  have HR_N3 := Lib.hid r_N3
  have HR_M3 := Lib.hid r_M3
  have HR_S3 := Lib.hid r_S3
  have HR_S4 := Lib.hid r_S4
  have HB := Lib.hid bel
  clear k_T k_P k_Q k_D k_R r_N1 r_S1 r_N2 r_S2 r_N3 r_M3 r_S3 r_S4 bel
  have HR_N5 := Lib.hid hn5
  clear hn5
  obtain ⟨g_U, hg⟩ : ∃ g, g = wn15.heap.size := ⟨_, rfl⟩
  have lt_T_U : g_T < g_U := by have := HK_T.out.lt; omega
  have lt_P_U : g_P < g_U := by have := HK_P.out.lt; omega
  have lt_Q_U : g_Q < g_U := by have := HK_Q.out.lt; omega
  have lt_D_U : g_D < g_U := by have := HK_D.out.lt; omega
  have lt_R_U : g_R < g_U := by have := HK_R.out.lt; omega
  have bs_U : w.heap.size ≤ g_U := by have := HB.out.size; omega
  have HG := Lib.hid hg
  clear hg
  go_upto_region 9 with fail
  have hbx : Below wn15.heap.size wn15 (wn15.alloc (.cells #[.slice A5 3 c5, .int .i64 2, .int .i64 4, .int .u64 0] 28)) := (Below.refl _ _).alloc (Nat.le_refl _) _
  have hkx := Blk.new wn15 28 #[.slice A5 3 c5, .int .i64 2, .int .i64 4, .int .u64 0]
  rw [← HG.out] at hkx ⊢
  generalize (wn15.alloc (.cells #[.slice A5 3 c5, .int .i64 2, .int .i64 4, .int .u64 0] 28)) = wn16 at hbx hkx ⊢
  clear HG
  have k_T := HK_T.out.below hbx HK_T.out.lt
  have k_P := HK_P.out.below hbx HK_P.out.lt
  have k_Q := HK_Q.out.below hbx HK_Q.out.lt
  have k_D := HK_D.out.below hbx HK_D.out.lt
  have k_R := HK_R.out.below hbx HK_R.out.lt
  have r_N1 := HR_N1.out.below hbx
  have r_S1 := HR_S1.out.below hbx
  have r_N2 := HR_N2.out.below hbx
  have r_S2 := HR_S2.out.below hbx
  have r_N3 := HR_N3.out.below hbx
  have r_M3 := HR_M3.out.below hbx
  have r_S3 := HR_S3.out.below hbx
  have r_S4 := HR_S4.out.below hbx
  have r_N5 := HR_N5.out.below hbx
  have bel := HB.out.trans (hbx.mono HB.out.size)
  clear HK_T HK_P HK_Q HK_D HK_R HR_N1 HR_S1 HR_N2 HR_S2 HR_N3 HR_M3 HR_S3 HR_S4 HR_N5 HB hbx
  have HK_T := Lib.hid k_T
  have HK_P := Lib.hid k_P
  have HK_Q := Lib.hid k_Q
  have HK_D := Lib.hid k_D
  have HK_R := Lib.hid k_R
  have HR_N1 := Lib.hid r_N1
  have HR_S1 := Lib.hid r_S1
  have HR_N2 := Lib.hid r_N2
  have HR_S2 := Lib.hid r_S2
  have HR_N3 := Lib.hid r_N3
  have HR_M3 := Lib.hid r_M3
  have HR_S3 := Lib.hid r_S3
  have HR_S4 := Lib.hid r_S4
  have HR_N5 := Lib.hid r_N5
  have HB := Lib.hid bel
  clear k_T k_P k_Q k_D k_R r_N1 r_S1 r_N2 r_S2 r_N3 r_M3 r_S3 r_S4 r_N5 bel
  have HK_U := Lib.hid hkx
  clear hkx
  have c_U0 : wn16.cell? ⟨g_U, 0, none⟩ = some (.slice A5 3 c5) := (HK_U.out.cell 0).trans rfl
  have c_U1 : wn16.cell? ⟨g_U, 1, none⟩ = some (.int .i64 2) := (HK_U.out.cell 1).trans rfl
  have c_U2 : wn16.cell? ⟨g_U, 2, none⟩ = some (.int .i64 4) := (HK_U.out.cell 2).trans rfl
  have c_U3 : wn16.cell? ⟨g_U, 3, none⟩ = some (.int .u64 0) := (HK_U.out.cell 3).trans rfl
  have HC := Lib.hid (del_c (n := 3) (km := 0) (ks := 1) (a := 2) sh8 rfl rfl rfl hc5 HR_N5.out (HTT.out.below HB.out) (sm3 (.inr (.inr rfl))))
  go_wp2_with fail
  refine HC.out.mono ?_
  rintro e wn17 ⟨M6, m6, S6, s6, rfl, hm6, hs6, hbn⟩
  clear c_U0 c_U1 c_U2 c_U3 HC
  have k_T := HK_T.out.below hbn HK_T.out.lt
  have k_P := HK_P.out.below hbn HK_P.out.lt
  have k_Q := HK_Q.out.below hbn HK_Q.out.lt
  have k_D := HK_D.out.below hbn HK_D.out.lt
  have k_R := HK_R.out.below hbn HK_R.out.lt
  have k_U := HK_U.out.below hbn HK_U.out.lt
  have r_N1 := HR_N1.out.below hbn
  have r_S1 := HR_S1.out.below hbn
  have r_N2 := HR_N2.out.below hbn
  have r_S2 := HR_S2.out.below hbn
  have r_N3 := HR_N3.out.below hbn
  have r_M3 := HR_M3.out.below hbn
  have r_S3 := HR_S3.out.below hbn
  have r_S4 := HR_S4.out.below hbn
  have r_N5 := HR_N5.out.below hbn
  have bel := HB.out.trans (hbn.mono HB.out.size)
  clear HK_T HK_P HK_Q HK_D HK_R HK_U HR_N1 HR_S1 HR_N2 HR_S2 HR_N3 HR_M3 HR_S3 HR_S4 HR_N5 HB hbn
  have HK_T := Lib.hid k_T
  have HK_P := Lib.hid k_P
  have HK_Q := Lib.hid k_Q
  have HK_D := Lib.hid k_D
  have HK_R := Lib.hid k_R
  have HK_U := Lib.hid k_U
  have HR_N1 := Lib.hid r_N1
  have HR_S1 := Lib.hid r_S1
  have HR_N2 := Lib.hid r_N2
  have HR_S2 := Lib.hid r_S2
  have HR_N3 := Lib.hid r_N3
  have HR_M3 := Lib.hid r_M3
  have HR_S3 := Lib.hid r_S3
  have HR_S4 := Lib.hid r_S4
  have HR_N5 := Lib.hid r_N5
  have HB := Lib.hid bel
  clear k_T k_P k_Q k_D k_R k_U r_N1 r_S1 r_N2 r_S2 r_N3 r_M3 r_S3 r_S4 r_N5 bel
  have HR_S6 := Lib.hid hs6
  clear hs6
  clear hm6
  obtain ⟨g_E, hg⟩ : ∃ g, g = wn17.heap.size := ⟨_, rfl⟩
  have lt_T_E : g_T < g_E := by have := HK_T.out.lt; omega
  have lt_P_E : g_P < g_E := by have := HK_P.out.lt; omega
  have lt_Q_E : g_Q < g_E := by have := HK_Q.out.lt; omega
  have lt_D_E : g_D < g_E := by have := HK_D.out.lt; omega
  have lt_R_E : g_R < g_E := by have := HK_R.out.lt; omega
  have lt_U_E : g_U < g_E := by have := HK_U.out.lt; omega
  have bs_E : w.heap.size ≤ g_E := by have := HB.out.size; omega
  have HG := Lib.hid hg
  clear hg
  go_upto_region 10 with fail
  have hbx : Below wn17.heap.size wn17 (wn17.alloc (.cells #[.slice M6 0 m6, .slice S6 1 s6] 33)) := (Below.refl _ _).alloc (Nat.le_refl _) _
  have hkx := Blk.new wn17 33 #[.slice M6 0 m6, .slice S6 1 s6]
  rw [← HG.out] at hkx ⊢
  generalize (wn17.alloc (.cells #[.slice M6 0 m6, .slice S6 1 s6] 33)) = wn18 at hbx hkx ⊢
  clear HG
  have k_T := HK_T.out.below hbx HK_T.out.lt
  have k_P := HK_P.out.below hbx HK_P.out.lt
  have k_Q := HK_Q.out.below hbx HK_Q.out.lt
  have k_D := HK_D.out.below hbx HK_D.out.lt
  have k_R := HK_R.out.below hbx HK_R.out.lt
  have k_U := HK_U.out.below hbx HK_U.out.lt
  have r_N1 := HR_N1.out.below hbx
  have r_S1 := HR_S1.out.below hbx
  have r_N2 := HR_N2.out.below hbx
  have r_S2 := HR_S2.out.below hbx
  have r_N3 := HR_N3.out.below hbx
  have r_M3 := HR_M3.out.below hbx
  have r_S3 := HR_S3.out.below hbx
  have r_S4 := HR_S4.out.below hbx
  have r_N5 := HR_N5.out.below hbx
  have r_S6 := HR_S6.out.below hbx
  have bel := HB.out.trans (hbx.mono HB.out.size)
  clear HK_T HK_P HK_Q HK_D HK_R HK_U HR_N1 HR_S1 HR_N2 HR_S2 HR_N3 HR_M3 HR_S3 HR_S4 HR_N5 HR_S6 HB hbx
  have HK_T := Lib.hid k_T
  have HK_P := Lib.hid k_P
  have HK_Q := Lib.hid k_Q
  have HK_D := Lib.hid k_D
  have HK_R := Lib.hid k_R
  have HK_U := Lib.hid k_U
  have HR_N1 := Lib.hid r_N1
  have HR_S1 := Lib.hid r_S1
  have HR_N2 := Lib.hid r_N2
  have HR_S2 := Lib.hid r_S2
  have HR_N3 := Lib.hid r_N3
  have HR_M3 := Lib.hid r_M3
  have HR_S3 := Lib.hid r_S3
  have HR_S4 := Lib.hid r_S4
  have HR_N5 := Lib.hid r_N5
  have HR_S6 := Lib.hid r_S6
  have HB := Lib.hid bel
  clear k_T k_P k_Q k_D k_R k_U r_N1 r_S1 r_N2 r_S2 r_N3 r_M3 r_S3 r_S4 r_N5 r_S6 bel
  have HK_E := Lib.hid hkx
  clear hkx
  obtain ⟨b1, o1, hM3, _, q1⟩ := HR_M3.out (by decide)
  obtain ⟨b2, o2, hS3, _, q2⟩ := HR_S3.out (by decide)
  obtain ⟨b3, o3, hS6, _, q3⟩ := HR_S6.out (by decide)
  subst hM3 hS3 hS6
  have x0 : wn18.cell? ⟨b1, o1, none⟩ = some (.int .i64 3) := q1 0 _ rfl
  have x1 : wn18.cell? ⟨b1, o1 + 1, none⟩ = some (.int .i64 2) := q1 1 _ rfl
  have y0 : wn18.cell? ⟨b2, o2, none⟩ = some (.int .i64 4) := q2 0 _ rfl
  have y1 : wn18.cell? ⟨b2, o2 + 1, none⟩ = some (.int .i64 3) := q2 1 _ rfl
  have y2 : wn18.cell? ⟨b2, o2 + 2, none⟩ = some (.int .i64 1) := q2 2 _ rfl
  have y3 : wn18.cell? ⟨b2, o2 + 3, none⟩ = some (.int .u64 0) := q2 3 _ rfl
  have y4 : wn18.cell? ⟨b2, o2 + 4, none⟩ = some (.string ⟨#[]⟩) := q2 4 _ rfl
  have z0 : wn18.cell? ⟨b3, o3, none⟩ = some (.int .i64 2) := q3 0 _ rfl
  clear q1 q2 q3
  have c_D0 : wn18.cell? ⟨g_D, 0, none⟩ = some (.slice (some ⟨b1, o1, none⟩) 1 m3) := (HK_D.out.cell 0).trans rfl
  have c_D1 : wn18.cell? ⟨g_D, 1, none⟩ = some (.slice (some ⟨b2, o2, none⟩) 2 s3) := (HK_D.out.cell 1).trans rfl
  have c_E0 : wn18.cell? ⟨g_E, 0, none⟩ = some (.slice M6 0 m6) := (HK_E.out.cell 0).trans rfl
  have c_E1 : wn18.cell? ⟨g_E, 1, none⟩ = some (.slice (some ⟨b3, o3, none⟩) 1 s6) := (HK_E.out.cell 1).trans rfl
  go_wp2_with fail
  go_ret
  exact ⟨rfl, HB.out⟩
end Go.Proofs.YtfdhehjfbcddgaaDoor.Pr
