/- rootcellarlaw14.TreeNext. Conditions: the acts' numbers are numbers of Go; the tables of unicode/utf8 lie in memory. -/
import Derived.Test.YtfdhehjfbcddgaaDoorTShown
import Derived.Test.YtfdhehjfbcddgaaDoorTNextP
import Derived.BigQuiet
import Derived.WalkSmall
namespace Go.Proofs.YtfdhehjfbcddgaaDoor.Pr
open Go.RowKit Go.Proofs.YtfdhehjfbcddgaaDoorW.PrintWords Go.Proofs.YtfdhehjfbcddgaaDoorW.PrintLast Go.Proofs.YtfdhehjfbcddgaaDoor
set_option linter.unusedVariables false
set_option maxRecDepth 100000 in
set_option maxHeartbeats 16000000 in
theorem next_any (A : Option Addr) (cap : Nat) (l : List Ac) (nm : ByteArray) (w : World) (hl : l.length ≤ 9223372036854775807) (hr : ActsAt w A l) (hT : Tabs w) (hok : ∀ a ∈ l, AcOk a) (hnm : ∀ a ∈ l, a.name.size ≤ 9223372036854775807) (hsz : nm.size ≤ 9223372036854775807) :
    Calls Tryd.prog 3 #[.slice A l.length cap, .string nm] w fun e w' => e = .returned (.bool true) ∧ Below w.heap.size w w' := by
  have HTT := Lib.hid hT
  have HSH := Lib.hid (shown_any w hT)
  have hri := fun (wx : World) (hb : Below w.heap.size w wx) => rightA_any A cap l wx hl (hr.below hb) hnm
  obtain ⟨R, hR⟩ : ∃ R, rightA l = R := ⟨_, rfl⟩
  rw [hR] at hri
  have HRI := Lib.hid hri
  have HRR := Lib.hid hR
  have HAR := Lib.hid hr
  have HOK := Lib.hid hok
  obtain ⟨n, hn⟩ : ∃ n, l.length = n := ⟨_, rfl⟩
  have HN0 := Lib.hid hn
  rw [hn] at HRI hl ⊢
  clear hT hr hok hnm hri hR hn
  go_enter Tryd.func3, Tryd.ntmps3
  go_wp2_with fail
  refine HSH.out.mono ?_
  rintro e w1 ⟨rfl, hb1⟩
  have HB1 := Lib.hid hb1
  have HRW := Lib.hid (HRI.out w1 hb1)
  clear hb1 HSH HRI
  go_wp2_with fail
  refine HRW.out.mono ?_
  rintro e w2 ⟨rfl, hb2⟩
  have HB2 := Lib.hid (HB1.out.trans (hb2.mono HB1.out.size))
  clear hb2 HB1 HRW
  cases R with
  | false =>
    go_wp2_with fail
    go_ret
    exact ⟨rfl, HB2.out⟩
  | true =>
    by_cases hs120 : nm.size ≤ 120
    case neg =>
      go_wp2_with fail
      go_ret
      exact ⟨rfl, HB2.out⟩
    have hri := HRR.out
    unfold rightA at hri
    rw [Bool.and_eq_true, decide_eq_true_eq, List.all_eq_true] at hri
    have hn60 : n ≤ 60 := by rw [← HN0.out]; exact hri.1
    have HNM := Lib.hid (show ∀ a ∈ l, a.name.size ≤ 1000000 from fun a ha => Nat.le_trans (by simpa using hri.2 a ha) (by decide))
    have HNW := Lib.hid (new_any w2)
    have HD0 := Lib.hid (show RightP ⟨newT.l, 1, 2, 0⟩ ∧ SmallT ⟨newT.l, 1, 2, 0⟩ from ⟨new_right, new_small⟩)
    clear hri HRR
    go_wp2_with fail
    refine HNW.out.mono ?_
    rintro e w3 ⟨A1, cp1, rfl, hc1, hn1, hb3⟩
    obtain ⟨gt, hgt⟩ : ∃ gt, gt = w3.heap.size := ⟨_, rfl⟩
    have hb3' := HB2.out.trans (hb3.mono HB2.out.size)
    have hgw : w.heap.size ≤ gt := by have := hb3'.size; omega
    have HG := Lib.hid hgt
    have HC1 := Lib.hid hc1
    have HN1 := Lib.hid hn1
    have HB3 := Lib.hid hb3'
    clear hgt hc1 hn1 hb3 hb3' HB2 HNW
    go_upto_region 6 with fail
    have hbx : Below w3.heap.size w3 (w3.alloc (.cells #[.slice A1 1 cp1, .int .i64 1, .int .i64 2, .int .u64 0] 28)) := (Below.refl _ _).alloc (Nat.le_refl _) _
    have hkx := Blk.new w3 28 #[.slice A1 1 cp1, .int .i64 1, .int .i64 2, .int .u64 0]
    rw [← HG.out] at hkx ⊢
    generalize (w3.alloc (.cells #[.slice A1 1 cp1, .int .i64 1, .int .i64 2, .int .u64 0] 28)) = w4 at hbx hkx ⊢
    have HKG := Lib.hid hkx
    have HNX := Lib.hid (HN1.out.below hbx)
    have HBX := Lib.hid (HB3.out.trans (hbx.mono HB3.out.size))
    clear hbx hkx HN1 HB3 HG
    go_wp2_with fail
    go_loopg [8, 9] n (fun k v8 v9 wr => ∃ (j : Nat) (l' : List Nd) (lv' nx' nw' : Int) (A' : Option Addr) (cap' n' : Nat), j + k = n ∧ v8 = .int .i64 nx' ∧ v9 = .int .i64 (j : Int) ∧ Hid (RightP ⟨l', lv', nx', nw'⟩ ∧ SmallT ⟨l', lv', nx', nw'⟩) ∧ Hid (l'.length = n') ∧ Hid (Blk wr gt 28 #[.slice A' n' cap', .int .i64 lv', .int .i64 nx', .int .u64 nw']) ∧ Hid (n' ≤ cap') ∧ Hid (NodesAt wr A' l') ∧ Hid (Below w.heap.size w wr))
    case atStart => exact ⟨0, newT.l, 1, 2, 0, A1, cp1, 1, by omega, rfl, rfl, HD0, Lib.hid rfl, HKG, HC1, HNX, HBX⟩
    case round =>
      clear HKG HNX HBX HC1 HD0
      obtain ⟨j, l', lv', nx', nw', A', cap', n', hjk, rfl, rfl, HD, HN, HK0, HCP, HR, HB⟩ := hrel
      have hlg : gt < wr.heap.size := HK0.out.lt
      have p0 : wr.cell? ⟨gt, 0, none⟩ = some (.slice A' n' cap') := (HK0.out.cell 0).trans rfl
      have p1 : wr.cell? ⟨gt, 1, none⟩ = some (.int .i64 lv') := (HK0.out.cell 1).trans rfl
      have p2 : wr.cell? ⟨gt, 2, none⟩ = some (.int .i64 nx') := (HK0.out.cell 2).trans rfl
      have p3 : wr.cell? ⟨gt, 3, none⟩ = some (.int .u64 nw') := (HK0.out.cell 3).trans rfl
      by_cases hlt : j < n
      · have hjl : j < l.length := by rw [HN0.out]; exact hlt
        have hsz := HNM.out _ (List.getElem_mem hjl)
        have hak := HOK.out _ (List.getElem_mem hjl)
        obtain ⟨b2, off, rfl, hob, hcell⟩ := HAR.out (by omega)
        obtain ⟨d0, d1, d2, d3⟩ := acts_get hcell j hjl
        have hl2 : b2 < wr.heap.size := Nat.lt_of_lt_of_le hob HB.out.size
        have d0 := (HB.out.cell (p := ⟨b2, off + j * 4, none⟩) hob).trans d0
        have d1 := (HB.out.cell (p := ⟨b2, off + j * 4 + 1, none⟩) hob).trans d1
        have d2 := (HB.out.cell (p := ⟨b2, off + j * 4 + 2, none⟩) hob).trans d2
        have d3 := (HB.out.cell (p := ⟨b2, off + j * 4 + 3, none⟩) hob).trans d3
        obtain ⟨a, ha⟩ : ∃ a, l[j]'hjl = a := ⟨_, rfl⟩
        rw [ha] at d0 d1 d2 d3 hsz hak
        obtain ⟨a0, a1, a2, a3⟩ := a
        dsimp only at d0 d1 d2 d3 hsz
        have hap := fun (wx : World) (hb : Below wr.heap.size wr wx) => plan_any A' cap' l' lv' nx' nw' a0 a1 a2 a3 wx HD.out.2.1 (by rw [HN.out]; exact HCP.out) (HR.out.below hb) (HTT.out.below (HB.out.trans (hb.mono HB.out.size))) HD.out.2.2 hak.1 hak.2.2 hsz
        have hpok := plan_ok ⟨l', lv', nx', nw'⟩ ⟨a0, a1, a2, a3⟩ hsz
        have hgs := grow_small (a := ⟨a0, a1, a2, a3⟩) HD.out.2 hsz
        have hgr := grow_right (a := ⟨a0, a1, a2, a3⟩) HD.out.1
        obtain ⟨G, hG⟩ : ∃ G, growN ⟨l', lv', nx', nw'⟩ ⟨a0, a1, a2, a3⟩ = G := ⟨_, rfl⟩
        rw [hG] at hgs hgr
        unfold growN at hG
        obtain ⟨⟨⟨pm, ps⟩, pe⟩, hQ⟩ : ∃ Q, planN ⟨l', lv', nx', nw'⟩ ⟨a0, a1, a2, a3⟩ = Q := ⟨_, rfl⟩
        rw [hQ] at hap hpok hG
        rw [HN.out] at hap
        dsimp only at hap hpok hG hgr
        obtain ⟨km, hkm⟩ : ∃ km, pm.length = km := ⟨_, rfl⟩
        obtain ⟨ks, hks⟩ : ∃ ks, ps.length = ks := ⟨_, rfl⟩
        have HKM := Lib.hid hkm
        have HKS := Lib.hid hks
        have HAP := Lib.hid hap
        have HPO := Lib.hid hpok
        have HGS := Lib.hid (show RightP G ∧ nx' ≤ G.nx ∧ SmallT G from ⟨hgr.1, hgr.2, hgs⟩)
        have HGG := Lib.hid hG
        clear hap hQ ha hcell hob hsz hak hgs hgr hG hpok hkm hks
        go_upto_region 10 with fail
        go_cut [10, 11] from 36 to 83 (fun v10 v11 wx => ∃ (g mc5 sc5 : Nat) (MA5 SA5 : Option Addr), v10 = .pointer (some ⟨g, 0, none⟩) ∧ v11 = .int .i64 pe ∧ Hid (Blk wx g 33 #[.slice MA5 km mc5, .slice SA5 ks sc5]) ∧ Hid (RowAt 62 encS wx SA5 ps) ∧ Hid (Below wr.heap.size wr wx) ∧ Hid (wr.heap.size ≤ g))
        case first =>
          have hkeep : ∀ w', Below wr.heap.size wr w' → w'.cell? ⟨gt, 0, none⟩ = some (.slice A' n' cap') ∧ w'.cell? ⟨gt, 1, none⟩ = some (.int .i64 lv') ∧ w'.cell? ⟨gt, 2, none⟩ = some (.int .i64 nx') ∧ w'.cell? ⟨gt, 3, none⟩ = some (.int .u64 nw') ∧ w'.cell? ⟨b2, off + j * 4, none⟩ = some (.int .i64 a0) ∧ w'.cell? ⟨b2, off + j * 4 + 1, none⟩ = some (.int .i64 a1) ∧ w'.cell? ⟨b2, off + j * 4 + 2, none⟩ = some (.int .i64 a2) ∧ w'.cell? ⟨b2, off + j * 4 + 3, none⟩ = some (.string a3) := fun w' hb => ⟨(hb.cell (p := ⟨gt, 0, none⟩) hlg).trans p0, (hb.cell (p := ⟨gt, 1, none⟩) hlg).trans p1, (hb.cell (p := ⟨gt, 2, none⟩) hlg).trans p2, (hb.cell (p := ⟨gt, 3, none⟩) hlg).trans p3, (hb.cell (p := ⟨b2, off + j * 4, none⟩) hl2).trans d0, (hb.cell (p := ⟨b2, off + j * 4 + 1, none⟩) hl2).trans d1, (hb.cell (p := ⟨b2, off + j * 4 + 2, none⟩) hl2).trans d2, (hb.cell (p := ⟨b2, off + j * 4 + 3, none⟩) hl2).trans d3⟩
          have HKP := Lib.hid hkeep
          clear hkeep
          go_region_held3 (fun w' => w'.cell? ⟨gt, 0, none⟩ = some (.slice A' n' cap') ∧ w'.cell? ⟨gt, 1, none⟩ = some (.int .i64 lv') ∧ w'.cell? ⟨gt, 2, none⟩ = some (.int .i64 nx') ∧ w'.cell? ⟨gt, 3, none⟩ = some (.int .u64 nw') ∧ w'.cell? ⟨b2, off + j * 4, none⟩ = some (.int .i64 a0) ∧ w'.cell? ⟨b2, off + j * 4 + 1, none⟩ = some (.int .i64 a1) ∧ w'.cell? ⟨b2, off + j * 4 + 2, none⟩ = some (.int .i64 a2) ∧ w'.cell? ⟨b2, off + j * 4 + 3, none⟩ = some (.string a3))
            (first | exact HKP.out _ (below_drew1 (Below.refl _ _)) | exact HKP.out _ (below_alloc (below_drew1 (Below.refl _ _)) _) | exact HKP.out _ hbl5 | exact HKP.out _ (below_alloc hbl5 _) | exact HKP.out _ (((hbl5).setCell (p := ⟨wr.heap.size, 0, none⟩) (Nat.le_refl _) _).setCell (p := ⟨wr.heap.size, 1, none⟩) (Nat.le_refl _) _) | fail)
            (first
              | (go_at_call 12; refine (HAP.out _ ?_).mono ?_; (first | exact below_drew1 (Below.refl _ _) | exact below_alloc (below_drew1 (Below.refl _ _)) _); (rintro e w5 ⟨v5, rfl, ht5, hb5⟩; have hbl5 : Below wr.heap.size wr w5 := (by first | exact (below_drew1 (Below.refl _ _)).trans hb5 | exact (below_alloc (below_drew1 (Below.refl _ _)) _).trans (hb5.mono (by simp))); obtain ⟨MA5, mc5, SA5, sc5, rfl, hm5, hs5⟩ := ht5; dsimp only at hm5 hs5 ⊢; rw [HKM.out, HKS.out]; (first | (have HZ := Lib.hid (show Blk w5 wr.heap.size 33 #[.slice none 0 0, .slice none 0 0] from (hb5.block wr.heap.size (by simp)).trans (heap_alloc_new wr.drew _)); have z0 : w5.cell? ⟨wr.heap.size, 0, none⟩ = some (.slice none 0 0) := (HZ.out.cell 0).trans rfl; have z1 : w5.cell? ⟨wr.heap.size, 1, none⟩ = some (.slice none 0 0) := (HZ.out.cell 1).trans rfl; have y0 := HZ.out.frozen 0; have y1 := HZ.out.frozen 1) | skip)))
              | fail)
          all_goals (go_wp2_with fail; go_meet)
          · exact ⟨w5.heap.size, mc5, sc5, MA5, SA5, rfl, rfl, Lib.hid (Blk.new w5 _ _), Lib.hid (hs5.below (below_alloc (Below.refl _ _) _)), Lib.hid (below_alloc hbl5 _), Lib.hid hbl5.size⟩
          · exact ⟨wr.heap.size, mc5, sc5, MA5, SA5, rfl, rfl, Lib.hid (((((HZ.out).set_ 0 _)).set_ 1 _)), Lib.hid ((hs5.setB HZ.out (by decide) 0 _).setB (HZ.out.set_ 0 _) (by decide) 1 _), Lib.hid (((hbl5).setCell (p := ⟨wr.heap.size, 0, none⟩) (Nat.le_refl _) _).setCell (p := ⟨wr.heap.size, 1, none⟩) (Nat.le_refl _) _), Lib.hid (Nat.le_refl _)⟩
        case rest =>
          clear p0 p1 p2 p3 d0 d1 d2 d3 HAP
          obtain ⟨g, mc5, sc5, MA5, SA5, rfl, rfl, HKP, HS5, HB5, HG5⟩ := hcut
          have hk0 := HK0.out.below HB5.out HK0.out.lt
          have hr2 := HR.out.below HB5.out
          have hbb := HB.out.trans (HB5.out.mono HB.out.size)
          clear HK0 HR HB HB5
          have HK0 := Lib.hid hk0
          have HR := Lib.hid hr2
          have HB := Lib.hid hbb
          have hdn := done_any A' cap' l' lv' nx' nw' MA5 km mc5 SA5 sc5 ps wc HD.out.2.1 (by rw [HN.out]; exact HCP.out) HR.out (HTT.out.below HB.out) HD.out.2.2 HS5.out HPO.out.1 HPO.out.2
          obtain ⟨⟨⟨ql, q1, q2, q3⟩, qe⟩, hQ⟩ : ∃ Q, doneN ⟨l', lv', nx', nw'⟩ ps = Q := ⟨_, rfl⟩
          have hgg := HGG.out
          rw [hQ] at hdn hgg
          rw [HN.out, HKS.out] at hdn
          dsimp only at hdn hgg
          obtain ⟨qn, hqn⟩ : ∃ qn, ql.length = qn := ⟨_, rfl⟩
          have HQN := Lib.hid hqn
          have HDN := Lib.hid hdn
          have HGQ := Lib.hid hgg
          clear hk0 hr2 hbb hdn hQ hgg HGG hqn
          have p0 : wc.cell? ⟨gt, 0, none⟩ = some (.slice A' n' cap') := (HK0.out.cell 0).trans rfl
          have p1 : wc.cell? ⟨gt, 1, none⟩ = some (.int .i64 lv') := (HK0.out.cell 1).trans rfl
          have p2 : wc.cell? ⟨gt, 2, none⟩ = some (.int .i64 nx') := (HK0.out.cell 2).trans rfl
          have p3 : wc.cell? ⟨gt, 3, none⟩ = some (.int .u64 nw') := (HK0.out.cell 3).trans rfl
          have m0 : wc.cell? ⟨g, 0, none⟩ = some (.slice MA5 km mc5) := (HKP.out.cell 0).trans rfl
          have m1 : wc.cell? ⟨g, 1, none⟩ = some (.slice SA5 ks sc5) := (HKP.out.cell 1).trans rfl
          go_wp2_with fail
          refine HDN.out.mono ?_
          rintro e w6 ⟨v6, rfl, ht6, hb6⟩
          obtain ⟨A6, cp6, rfl, hc6, hn6⟩ := ht6
          dsimp only at hc6 hn6 ⊢
          rw [HQN.out] at hc6 ⊢
          obtain ⟨g6, hg6⟩ : ∃ g6, g6 = w6.heap.size := ⟨_, rfl⟩
          have HG6 := Lib.hid hg6
          have hk0 := HK0.out.below hb6 HK0.out.lt
          have hr2 := HR.out.below hb6
          have hbb := HB.out.trans (hb6.mono HB.out.size)
          have HC6 := Lib.hid hc6
          have HN6 := Lib.hid hn6
          have hlt6 : gt < w6.heap.size := hk0.lt
          clear HK0 HR HB p0 p1 p2 p3 m0 m1 HKP HS5 HG5 HDN HPO hc6 hn6 hb6 hg6
          have HK0 := Lib.hid hk0
          have HR := Lib.hid hr2
          have HB := Lib.hid hbb
          clear hk0 hr2 hbb
          go_upto_region 12 with fail
          have hbx : Below w6.heap.size w6 (w6.alloc (.cells #[.slice A6 qn cp6, .int .i64 q1, .int .i64 q2, .int .u64 q3] 28)) := (Below.refl _ _).alloc (Nat.le_refl _) _
          have hkx := Blk.new w6 28 #[.slice A6 qn cp6, .int .i64 q1, .int .i64 q2, .int .u64 q3]
          rw [← HG6.out] at hkx ⊢
          have hne : gt ≠ g6 := by have := HG6.out; omega
          generalize (w6.alloc (.cells #[.slice A6 qn cp6, .int .i64 q1, .int .i64 q2, .int .u64 q3] 28)) = w7 at hbx hkx ⊢
          have hk0 := HK0.out.below hbx HK0.out.lt
          have hr2 := HR.out.below hbx
          have hbb := HB.out.trans (hbx.mono HB.out.size)
          have hn7 := HN6.out.below hbx
          clear HK0 HR HB HN6 hbx
          have HK0 := Lib.hid hk0
          have HR := Lib.hid hr2
          have HB := Lib.hid hbb
          have HN7 := Lib.hid hn7
          have p0 : w7.cell? ⟨gt, 0, none⟩ = some (.slice A' n' cap') := (hk0.cell 0).trans rfl
          have p1 : w7.cell? ⟨gt, 1, none⟩ = some (.int .i64 lv') := (hk0.cell 1).trans rfl
          have p2 : w7.cell? ⟨gt, 2, none⟩ = some (.int .i64 nx') := (hk0.cell 2).trans rfl
          have p3 : w7.cell? ⟨gt, 3, none⟩ = some (.int .u64 nw') := (hk0.cell 3).trans rfl
          have f0 := hk0.frozen 0
          have f1 := hk0.frozen 1
          have f2 := hk0.frozen 2
          have f3 := hk0.frozen 3
          have m0 : w7.cell? ⟨g6, 0, none⟩ = some (.slice A6 qn cp6) := (hkx.cell 0).trans rfl
          have m1 : w7.cell? ⟨g6, 1, none⟩ = some (.int .i64 q1) := (hkx.cell 1).trans rfl
          have m2 : w7.cell? ⟨g6, 2, none⟩ = some (.int .i64 q2) := (hkx.cell 2).trans rfl
          have m3 : w7.cell? ⟨g6, 3, none⟩ = some (.int .u64 q3) := (hkx.cell 3).trans rfl
          clear hk0 hr2 hbb hn7 hkx hlt6
          by_cases hpe : pe = 0
          · subst hpe
            by_cases hqe : qe = 0
            · subst hqe
              have hgq := HGQ.out
              rw [if_pos ⟨rfl, rfl⟩] at hgq
              subst hgq
              have HRG := Lib.hid (show RightP ⟨ql, q1, q2, q3⟩ from HGS.out.1)
              have hnx : nx' ≤ q2 := HGS.out.2.1
              clear HGQ HD HN HCP
              go_upto_region 14 with fail
              have hk8 := ((((((((HK0.out).set_ 0 (.slice A6 qn cp6))).set_ 1 (.int .i64 q1))).set_ 2 (.int .i64 q2))).set_ 3 (.int .u64 q3))
              have hn8 := HN7.out.set4 HK0.out (by decide) (.slice A6 qn cp6) (.int .i64 q1) (.int .i64 q2) (.int .u64 q3)
              have hb8 := below_set4 HB.out hgw (.slice A6 qn cp6) (.int .i64 q1) (.int .i64 q2) (.int .u64 q3)
              generalize ((((w7.setCell ⟨gt, 0, none⟩ (.slice A6 qn cp6)).setCell ⟨gt, 1, none⟩ (.int .i64 q1)).setCell ⟨gt, 2, none⟩ (.int .i64 q2)).setCell ⟨gt, 3, none⟩ (.int .u64 q3)) = w8 at hk8 hn8 hb8 ⊢
              clear HK0 HN7 HR HB p0 p1 p2 p3 f0 f1 f2 f3 m0 m1 m2 m3
              have HK0 := Lib.hid hk8
              have HN8 := Lib.hid hn8
              have HB := Lib.hid hb8
              clear hk8 hn8 hb8
              have hlast : (ql.getD (ql.length - 1) zN).id < q2 := by
                have hp : 0 < ql.length := by obtain ⟨r, tl, e, _⟩ := HRG.out.head; show 0 < (Tr.l ⟨ql, q1, q2, q3⟩).length; rw [e]; simp
                rw [getD_get (by omega)]
                exact HRG.out.next _ (List.getElem_mem _)
              have hpos : 0 < qn := by
                obtain ⟨r, tl, e, _⟩ := HRG.out.head
                have : 0 < (Tr.l ⟨ql, q1, q2, q3⟩).length := by rw [e]; simp
                have h2 := HQN.out
                dsimp only at this
                omega
              have hn60 : qn ≤ 60 := by have h1 := HRG.out.len; have h2 := HQN.out; dsimp only at h1; omega
              obtain ⟨qm, hqm⟩ : ∃ qm, qm = qn - 1 := ⟨_, rfl⟩
              have hqlt : qm < ql.length := by have h2 := HQN.out; omega
              have hqn : qm < qn := by omega
              have hsub : IntKind.i64.wrap ((qn : Int) - 1) = (qm : Int) := by rw [IntWalk.i64_in _ (by omega)]; omega
              rw [show ql.length - 1 = qm by have h2 := HQN.out; omega, getD_get hqlt] at hlast
              obtain ⟨b3, of3, hA3, ⟨cs3, fr3, hob3⟩, hcell3⟩ := HN8.out (by omega)
              have z0 := (nodes_get hcell3 qm hqlt).1
              obtain ⟨z, hz⟩ : ∃ z, (ql[qm]'hqlt).id = z := ⟨_, rfl⟩
              rw [hz] at z0 hlast
              have r0 : w8.cell? ⟨gt, 0, none⟩ = some (.slice (some ⟨b3, of3, none⟩) qn cp6) := by rw [← hA3]; exact (HK0.out.cell 0).trans rfl
              have r2 : w8.cell? ⟨gt, 2, none⟩ = some (.int .i64 q2) := (HK0.out.cell 2).trans rfl
              clear hqm hz hcell3 hob3 hA3 hqlt
              go_upto_region 14 with fail
              have hgd : decide (q2 < nx') = false := decide_eq_false (by omega)
              have hge : decide (q2 ≤ z) = false := decide_eq_false (by omega)
              go_big_quiet (fail)
              clear hgd hge
              have hbq := below_drewN (Below.refl w8.heap.size w8) nq
              have hk9 := HK0.out.below hbq HK0.out.lt
              have hn9 := HN8.out.below hbq
              have hb9 := HB.out.trans (hbq.mono HB.out.size)
              generalize w8.drewN nq = w9 at hk9 hn9 hb9 ⊢
              clear r0 r2 z0
              have r2 : w9.cell? ⟨gt, 2, none⟩ = some (.int .i64 q2) := (hk9.cell 2).trans rfl
              have HK9 := Lib.hid hk9
              have HN9 := Lib.hid hn9
              have HB9 := Lib.hid hb9
              clear hk9 hn9 hb9 hbq
              go_wp2_with fail
              go_roundg (gk - 1)
              case measure => omega
              case rel => exact ⟨j + 1, ql, q1, q2, q3, A6, cp6, qn, by omega, by rfl, by go_num, Lib.hid ⟨HRG.out, HGS.out.2.2⟩, HQN, HK9, HC6, HN9, HB9⟩
            · have hqb : (qe == 0) = false := by rw [beq_eq_false_iff_ne]; exact hqe
              have HRG := Lib.hid HD.out.1
              have hnx : nx' ≤ nx' := Int.le_refl _
              clear HGQ HGS p0 p1 p2 p3 f0 f1 f2 f3 m0 m1 m2 m3
              have hlast : (l'.getD (l'.length - 1) zN).id < nx' := by
                have hp : 0 < l'.length := by obtain ⟨r, tl, e, _⟩ := HRG.out.head; show 0 < (Tr.l ⟨l', lv', nx', nw'⟩).length; rw [e]; simp
                rw [getD_get (by omega)]
                exact HRG.out.next _ (List.getElem_mem _)
              have hpos : 0 < n' := by
                obtain ⟨r, tl, e, _⟩ := HRG.out.head
                have : 0 < (Tr.l ⟨l', lv', nx', nw'⟩).length := by rw [e]; simp
                have h2 := HN.out
                dsimp only at this
                omega
              have hn60 : n' ≤ 60 := by have h1 := HRG.out.len; have h2 := HN.out; dsimp only at h1; omega
              obtain ⟨qm, hqm⟩ : ∃ qm, qm = n' - 1 := ⟨_, rfl⟩
              have hqlt : qm < l'.length := by have h2 := HN.out; omega
              have hqn : qm < n' := by omega
              have hsub : IntKind.i64.wrap ((n' : Int) - 1) = (qm : Int) := by rw [IntWalk.i64_in _ (by omega)]; omega
              rw [show l'.length - 1 = qm by have h2 := HN.out; omega, getD_get hqlt] at hlast
              obtain ⟨b3, of3, hA3, ⟨cs3, fr3, hob3⟩, hcell3⟩ := HR.out (by omega)
              have z0 := (nodes_get hcell3 qm hqlt).1
              obtain ⟨z, hz⟩ : ∃ z, (l'[qm]'hqlt).id = z := ⟨_, rfl⟩
              rw [hz] at z0 hlast
              have r0 : w7.cell? ⟨gt, 0, none⟩ = some (.slice (some ⟨b3, of3, none⟩) n' cap') := by rw [← hA3]; exact (HK0.out.cell 0).trans rfl
              have r2 : w7.cell? ⟨gt, 2, none⟩ = some (.int .i64 nx') := (HK0.out.cell 2).trans rfl
              clear hqm hz hcell3 hob3 hA3 hqlt
              go_upto_region 14 with fail
              have hgd : decide (nx' < nx') = false := decide_eq_false (by omega)
              have hge : decide (nx' ≤ z) = false := decide_eq_false (by omega)
              go_big_quiet (fail)
              clear hgd hge
              have hbq := below_drewN (Below.refl w7.heap.size w7) nq
              have hk9 := HK0.out.below hbq HK0.out.lt
              have hn9 := HR.out.below hbq
              have hb9 := HB.out.trans (hbq.mono HB.out.size)
              generalize w7.drewN nq = w9 at hk9 hn9 hb9 ⊢
              clear r0 r2 z0
              have r2 : w9.cell? ⟨gt, 2, none⟩ = some (.int .i64 nx') := (hk9.cell 2).trans rfl
              have HK9 := Lib.hid hk9
              have HN9 := Lib.hid hn9
              have HB9 := Lib.hid hb9
              clear hk9 hn9 hb9 hbq
              go_wp2_with fail
              go_roundg (gk - 1)
              case measure => omega
              case rel => exact ⟨j + 1, l', lv', nx', nw', A', cap', n', by omega, by rfl, by go_num, HD, HN, HK9, HCP, HN9, HB9⟩
          · have hpb : (pe == 0) = false := by rw [beq_eq_false_iff_ne]; exact hpe
            have HRG := Lib.hid HD.out.1
            have hnx : nx' ≤ nx' := Int.le_refl _
            clear HGQ HGS p0 p1 p2 p3 f0 f1 f2 f3 m0 m1 m2 m3
            have hlast : (l'.getD (l'.length - 1) zN).id < nx' := by
              have hp : 0 < l'.length := by obtain ⟨r, tl, e, _⟩ := HRG.out.head; show 0 < (Tr.l ⟨l', lv', nx', nw'⟩).length; rw [e]; simp
              rw [getD_get (by omega)]
              exact HRG.out.next _ (List.getElem_mem _)
            have hpos : 0 < n' := by
              obtain ⟨r, tl, e, _⟩ := HRG.out.head
              have : 0 < (Tr.l ⟨l', lv', nx', nw'⟩).length := by rw [e]; simp
              have h2 := HN.out
              dsimp only at this
              omega
            have hn60 : n' ≤ 60 := by have h1 := HRG.out.len; have h2 := HN.out; dsimp only at h1; omega
            obtain ⟨qm, hqm⟩ : ∃ qm, qm = n' - 1 := ⟨_, rfl⟩
            have hqlt : qm < l'.length := by have h2 := HN.out; omega
            have hqn : qm < n' := by omega
            have hsub : IntKind.i64.wrap ((n' : Int) - 1) = (qm : Int) := by rw [IntWalk.i64_in _ (by omega)]; omega
            rw [show l'.length - 1 = qm by have h2 := HN.out; omega, getD_get hqlt] at hlast
            obtain ⟨b3, of3, hA3, ⟨cs3, fr3, hob3⟩, hcell3⟩ := HR.out (by omega)
            have z0 := (nodes_get hcell3 qm hqlt).1
            obtain ⟨z, hz⟩ : ∃ z, (l'[qm]'hqlt).id = z := ⟨_, rfl⟩
            rw [hz] at z0 hlast
            have r0 : w7.cell? ⟨gt, 0, none⟩ = some (.slice (some ⟨b3, of3, none⟩) n' cap') := by rw [← hA3]; exact (HK0.out.cell 0).trans rfl
            have r2 : w7.cell? ⟨gt, 2, none⟩ = some (.int .i64 nx') := (HK0.out.cell 2).trans rfl
            clear hqm hz hcell3 hob3 hA3 hqlt
            go_upto_region 14 with fail
            have hgd : decide (nx' < nx') = false := decide_eq_false (by omega)
            have hge : decide (nx' ≤ z) = false := decide_eq_false (by omega)
            go_big_quiet (fail)
            clear hgd hge
            have hbq := below_drewN (Below.refl w7.heap.size w7) nq
            have hk9 := HK0.out.below hbq HK0.out.lt
            have hn9 := HR.out.below hbq
            have hb9 := HB.out.trans (hbq.mono HB.out.size)
            generalize w7.drewN nq = w9 at hk9 hn9 hb9 ⊢
            clear r0 r2 z0
            have r2 : w9.cell? ⟨gt, 2, none⟩ = some (.int .i64 nx') := (hk9.cell 2).trans rfl
            have HK9 := Lib.hid hk9
            have HN9 := Lib.hid hn9
            have HB9 := Lib.hid hb9
            clear hk9 hn9 hb9 hbq
            go_wp2_with fail
            go_roundg (gk - 1)
            case measure => omega
            case rel => exact ⟨j + 1, l', lv', nx', nw', A', cap', n', by omega, by rfl, by go_num, HD, HN, HK9, HCP, HN9, HB9⟩
      · obtain rfl : j = n := by omega
        clear p0 p1 p2 p3
        have HK_T := HK0
        have HR_N := HR
        have hsr := HD.out
        obtain ⟨⟨⟨pm, ps⟩, pe⟩, hQ⟩ : ∃ Q, snapN ⟨l', lv', nx', nw'⟩ nm = Q := ⟨_, rfl⟩
        have hbad := snap_bad (t := ⟨l', lv', nx', nw'⟩) (nm := nm)
        have hgood := snap_good (t := ⟨l', lv', nx', nw'⟩) (nm := nm)
        rw [hQ] at hbad hgood
        dsimp only at hbad hgood
        have HQ := Lib.hid hQ
        have hhc := HCP.out
        have hs6 : nm.size ≤ 1000000 := Nat.le_trans hs120 (by decide)
        have hlv0 := HN.out
        have bs_T := hgw
        clear hQ hlt HK0 HR
        by_cases hpe : pe = 0
        · subst hpe
          obtain ⟨g1, g2, g3, g4⟩ := hgood rfl
          injection g2 with g2a g2b
          subst g2a g2b
          have hfd := snap_find g4
          have HG3 := Lib.hid g3
          have HFD := Lib.hid hfd
          have HSM := Lib.hid (show SmallT (snapT ⟨l', lv', nx', nw'⟩ nm) from by
            have := done_small [⟨1, nx', lv', nw', nm⟩, ⟨6, nx', 0, 0, ⟨#[]⟩⟩] ⟨l', lv', nx', nw'⟩ hsr.2 (fun x hx => by
              simp only [List.mem_cons, List.not_mem_nil, or_false] at hx
              rcases hx with rfl | rfl
              · exact hs6
              · exact Nat.zero_le _)
            rw [g3] at this
            exact this)
          have hn60' : n' ≤ 60 := by have h1 := g1.len; dsimp only at h1; omega
          have hnxt := g1.top
          have hnx0 := g1.nx_pos
          dsimp only at hnxt hnx0
          have HSR := Lib.hid hsr
          clear hbad hgood g1 g3 g4 hfd hsr hlv0
          have c_T0 : wr.cell? ⟨gt, 0, none⟩ = some (.slice A' n' cap') := (HK_T.out.cell 0).trans rfl
          have c_T1 : wr.cell? ⟨gt, 1, none⟩ = some (.int .i64 lv') := (HK_T.out.cell 1).trans rfl
          have c_T2 : wr.cell? ⟨gt, 2, none⟩ = some (.int .i64 nx') := (HK_T.out.cell 2).trans rfl
          have c_T3 : wr.cell? ⟨gt, 3, none⟩ = some (.int .u64 nw') := (HK_T.out.cell 3).trans rfl
          have HC := Lib.hid (snap_c (n := n') (km := 0) (ks := 2) HQ.out HN.out rfl rfl hhc HR_N.out (HTT.out.below HB.out) HSR.out.2 hs6)
          go_wp2_with fail
          refine HC.out.mono ?_
          rintro e wn1 ⟨M1, m1, S1, s1, rfl, hm1, hs1, hbn⟩
          clear c_T0 c_T1 c_T2 c_T3 HC
          have k_T := HK_T.out.below hbn HK_T.out.lt
          have r_N := HR_N.out.below hbn
          have bel := HB.out.trans (hbn.mono HB.out.size)
          clear HK_T HR_N HB hbn
          have HK_T := Lib.hid k_T
          have HR_N := Lib.hid r_N
          have HB := Lib.hid bel
          clear k_T r_N bel
          have HR_S := Lib.hid hs1
          clear hs1
          clear hm1
          obtain ⟨g_P, hg⟩ : ∃ g, g = wn1.heap.size := ⟨_, rfl⟩
          have lt_T_P : gt < g_P := by have := HK_T.out.lt; omega
          have bs_P : w.heap.size ≤ g_P := by have := HB.out.size; omega
          have HG := Lib.hid hg
          clear hg
          go_upto_region 18 with fail
          have hbx : Below wn1.heap.size wn1 (wn1.alloc (.cells #[.slice M1 0 m1, .slice S1 2 s1] 33)) := (Below.refl _ _).alloc (Nat.le_refl _) _
          have hkx := Blk.new wn1 33 #[.slice M1 0 m1, .slice S1 2 s1]
          rw [← HG.out] at hkx ⊢
          generalize (wn1.alloc (.cells #[.slice M1 0 m1, .slice S1 2 s1] 33)) = wn2 at hbx hkx ⊢
          clear HG
          have k_T := HK_T.out.below hbx HK_T.out.lt
          have r_N := HR_N.out.below hbx
          have r_S := HR_S.out.below hbx
          have bel := HB.out.trans (hbx.mono HB.out.size)
          clear HK_T HR_N HR_S HB hbx
          have HK_T := Lib.hid k_T
          have HR_N := Lib.hid r_N
          have HR_S := Lib.hid r_S
          have HB := Lib.hid bel
          clear k_T r_N r_S bel
          have HK_P := Lib.hid hkx
          clear hkx
          have c_T0 : wn2.cell? ⟨gt, 0, none⟩ = some (.slice A' n' cap') := (HK_T.out.cell 0).trans rfl
          have c_T1 : wn2.cell? ⟨gt, 1, none⟩ = some (.int .i64 lv') := (HK_T.out.cell 1).trans rfl
          have c_T2 : wn2.cell? ⟨gt, 2, none⟩ = some (.int .i64 nx') := (HK_T.out.cell 2).trans rfl
          have c_T3 : wn2.cell? ⟨gt, 3, none⟩ = some (.int .u64 nw') := (HK_T.out.cell 3).trans rfl
          have c_P0 : wn2.cell? ⟨g_P, 0, none⟩ = some (.slice M1 0 m1) := (HK_P.out.cell 0).trans rfl
          have c_P1 : wn2.cell? ⟨g_P, 1, none⟩ = some (.slice S1 2 s1) := (HK_P.out.cell 1).trans rfl
          have HC := Lib.hid (done_c (l' := (l' ++ [(⟨nx', lv', nm, nw', false, false⟩ : Nd)])) (lv' := nx') (nx' := nx' + 1) (nw' := nw') (er := 0) (n := n') (n' := n' + 1) (ks := 2) (sc := s1) (km := 0) (mc := m1) (MA := M1) HG3.out HN.out (by rw [List.length_append, HN.out]; rfl) rfl hhc HR_N.out (HTT.out.below HB.out) HSR.out.2 HR_S.out (by decide) (fun x hx => by simp only [List.mem_cons, List.not_mem_nil, or_false] at hx; rcases hx with rfl | rfl; exact hs6; exact Nat.zero_le _))
          go_wp2_with fail
          refine HC.out.mono ?_
          rintro e wn3 ⟨A2, c2, rfl, hc2, hn2, hbn⟩
          clear c_T0 c_T1 c_T2 c_T3 c_P0 c_P1 HC
          have k_T := HK_T.out.below hbn HK_T.out.lt
          have k_P := HK_P.out.below hbn HK_P.out.lt
          have r_N := HR_N.out.below hbn
          have r_S := HR_S.out.below hbn
          have bel := HB.out.trans (hbn.mono HB.out.size)
          clear HK_T HK_P HR_N HR_S HB hbn
          have HK_T := Lib.hid k_T
          have HK_P := Lib.hid k_P
          have HR_N := Lib.hid r_N
          have HR_S := Lib.hid r_S
          have HB := Lib.hid bel
          clear k_T k_P r_N r_S bel
          have HR_U := Lib.hid hn2
          clear hn2
          obtain ⟨g_U, hg⟩ : ∃ g, g = wn3.heap.size := ⟨_, rfl⟩
          have lt_T_U : gt < g_U := by have := HK_T.out.lt; omega
          have lt_P_U : g_P < g_U := by have := HK_P.out.lt; omega
          have bs_U : w.heap.size ≤ g_U := by have := HB.out.size; omega
          have HG := Lib.hid hg
          clear hg
          go_upto_region 19 with fail
          have hbx : Below wn3.heap.size wn3 (wn3.alloc (.cells #[.slice A2 (n' + 1) c2, .int .i64 nx', .int .i64 (nx' + 1), .int .u64 nw'] 28)) := (Below.refl _ _).alloc (Nat.le_refl _) _
          have hkx := Blk.new wn3 28 #[.slice A2 (n' + 1) c2, .int .i64 nx', .int .i64 (nx' + 1), .int .u64 nw']
          rw [← HG.out] at hkx ⊢
          generalize (wn3.alloc (.cells #[.slice A2 (n' + 1) c2, .int .i64 nx', .int .i64 (nx' + 1), .int .u64 nw'] 28)) = wn4 at hbx hkx ⊢
          clear HG
          have k_T := HK_T.out.below hbx HK_T.out.lt
          have k_P := HK_P.out.below hbx HK_P.out.lt
          have r_N := HR_N.out.below hbx
          have r_S := HR_S.out.below hbx
          have r_U := HR_U.out.below hbx
          have bel := HB.out.trans (hbx.mono HB.out.size)
          clear HK_T HK_P HR_N HR_S HR_U HB hbx
          have HK_T := Lib.hid k_T
          have HK_P := Lib.hid k_P
          have HR_N := Lib.hid r_N
          have HR_S := Lib.hid r_S
          have HR_U := Lib.hid r_U
          have HB := Lib.hid bel
          clear k_T k_P r_N r_S r_U bel
          have HK_U := Lib.hid hkx
          clear hkx
          go_upto_region 21 with fail
          have c_U0 : wn4.cell? ⟨g_U, 0, none⟩ = some (.slice A2 (n' + 1) c2) := (HK_U.out.cell 0).trans rfl
          have c_U1 : wn4.cell? ⟨g_U, 1, none⟩ = some (.int .i64 nx') := (HK_U.out.cell 1).trans rfl
          have c_U2 : wn4.cell? ⟨g_U, 2, none⟩ = some (.int .i64 (nx' + 1)) := (HK_U.out.cell 2).trans rfl
          have c_U3 : wn4.cell? ⟨g_U, 3, none⟩ = some (.int .u64 nw') := (HK_U.out.cell 3).trans rfl
          have HC := Lib.hid (find_c (lv := nx') (nx := nx' + 1) (nw := nw') (cap := c2) (n := n' + 1) (a := nx') HFD.out (by show ((l' ++ [(⟨nx', lv', nm, nw', false, false⟩ : Nd)])).length = _; rw [List.length_append, HN.out]; rfl) (by omega) HR_U.out)
          go_wp2_with fail
          refine HC.out.mono ?_
          rintro e wn5 ⟨rfl, hbn⟩
          clear c_U0 c_U1 c_U2 c_U3 HC
          have k_T := HK_T.out.below hbn HK_T.out.lt
          have k_P := HK_P.out.below hbn HK_P.out.lt
          have k_U := HK_U.out.below hbn HK_U.out.lt
          have r_N := HR_N.out.below hbn
          have r_S := HR_S.out.below hbn
          have r_U := HR_U.out.below hbn
          have bel := HB.out.trans (hbn.mono HB.out.size)
          clear HK_T HK_P HK_U HR_N HR_S HR_U HB hbn
          have HK_T := Lib.hid k_T
          have HK_P := Lib.hid k_P
          have HK_U := Lib.hid k_U
          have HR_N := Lib.hid r_N
          have HR_S := Lib.hid r_S
          have HR_U := Lib.hid r_U
          have HB := Lib.hid bel
          clear k_T k_P k_U r_N r_S r_U bel
          obtain ⟨g_X, hg⟩ : ∃ g, g = wn5.heap.size := ⟨_, rfl⟩
          have lt_T_X : gt < g_X := by have := HK_T.out.lt; omega
          have lt_P_X : g_P < g_X := by have := HK_P.out.lt; omega
          have lt_U_X : g_U < g_X := by have := HK_U.out.lt; omega
          have bs_X : w.heap.size ≤ g_X := by have := HB.out.size; omega
          have HG := Lib.hid hg
          clear hg
          go_upto_region 22 with fail
          have hbx : Below wn5.heap.size wn5 (wn5.alloc (.cells #[.int .i64 nx', .int .i64 lv', .string nm, .int .u64 nw', .bool false, .bool false] 42)) := (Below.refl _ _).alloc (Nat.le_refl _) _
          have hkx := Blk.new wn5 42 #[.int .i64 nx', .int .i64 lv', .string nm, .int .u64 nw', .bool false, .bool false]
          rw [← HG.out] at hkx ⊢
          generalize (wn5.alloc (.cells #[.int .i64 nx', .int .i64 lv', .string nm, .int .u64 nw', .bool false, .bool false] 42)) = wn6 at hbx hkx ⊢
          clear HG
          have k_T := HK_T.out.below hbx HK_T.out.lt
          have k_P := HK_P.out.below hbx HK_P.out.lt
          have k_U := HK_U.out.below hbx HK_U.out.lt
          have r_N := HR_N.out.below hbx
          have r_S := HR_S.out.below hbx
          have r_U := HR_U.out.below hbx
          have bel := HB.out.trans (hbx.mono HB.out.size)
          clear HK_T HK_P HK_U HR_N HR_S HR_U HB hbx
          have HK_T := Lib.hid k_T
          have HK_P := Lib.hid k_P
          have HK_U := Lib.hid k_U
          have HR_N := Lib.hid r_N
          have HR_S := Lib.hid r_S
          have HR_U := Lib.hid r_U
          have HB := Lib.hid bel
          clear k_T k_P k_U r_N r_S r_U bel
          have HK_X := Lib.hid hkx
          clear hkx
          have c_T0 : wn6.cell? ⟨gt, 0, none⟩ = some (.slice A' n' cap') := (HK_T.out.cell 0).trans rfl
          have c_T1 : wn6.cell? ⟨gt, 1, none⟩ = some (.int .i64 lv') := (HK_T.out.cell 1).trans rfl
          have c_T2 : wn6.cell? ⟨gt, 2, none⟩ = some (.int .i64 nx') := (HK_T.out.cell 2).trans rfl
          have c_T3 : wn6.cell? ⟨gt, 3, none⟩ = some (.int .u64 nw') := (HK_T.out.cell 3).trans rfl
          have c_U0 : wn6.cell? ⟨g_U, 0, none⟩ = some (.slice A2 (n' + 1) c2) := (HK_U.out.cell 0).trans rfl
          have c_U1 : wn6.cell? ⟨g_U, 1, none⟩ = some (.int .i64 nx') := (HK_U.out.cell 1).trans rfl
          have c_U2 : wn6.cell? ⟨g_U, 2, none⟩ = some (.int .i64 (nx' + 1)) := (HK_U.out.cell 2).trans rfl
          have c_U3 : wn6.cell? ⟨g_U, 3, none⟩ = some (.int .u64 nw') := (HK_U.out.cell 3).trans rfl
          have c_X0 : wn6.cell? ⟨g_X, 0, none⟩ = some (.int .i64 nx') := (HK_X.out.cell 0).trans rfl
          have c_X1 : wn6.cell? ⟨g_X, 1, none⟩ = some (.int .i64 lv') := (HK_X.out.cell 1).trans rfl
          have c_X2 : wn6.cell? ⟨g_X, 2, none⟩ = some (.string nm) := (HK_X.out.cell 2).trans rfl
          have c_X3 : wn6.cell? ⟨g_X, 3, none⟩ = some (.int .u64 nw') := (HK_X.out.cell 3).trans rfl
          have c_X4 : wn6.cell? ⟨g_X, 4, none⟩ = some (.bool false) := (HK_X.out.cell 4).trans rfl
          have c_X5 : wn6.cell? ⟨g_X, 5, none⟩ = some (.bool false) := (HK_X.out.cell 5).trans rfl
          have hself : (nm.toList == nm.toList) = true := by simp
          have hadd : IntKind.i64.wrap (nx' + 1) = nx' + 1 := IntWalk.i64_in _ (by omega)
          go_wp2_with fail
          go_ret
          exact ⟨rfl, HB.out⟩
        · have hbd := hbad hpe
          injection hbd with hb1 hb2
          subst hb1 hb2
          have hpb : (pe == 0) = false := by rw [beq_eq_false_iff_ne]; exact hpe
          have hpn : (pe != 0) = true := by simp [hpe]
          have HSR := Lib.hid hsr
          have hn60' : n' ≤ 60 := by have h1 := hsr.1.len; dsimp only at h1; omega
          clear hbad hgood hsr hlv0
          have c_T0 : wr.cell? ⟨gt, 0, none⟩ = some (.slice A' n' cap') := (HK_T.out.cell 0).trans rfl
          have c_T1 : wr.cell? ⟨gt, 1, none⟩ = some (.int .i64 lv') := (HK_T.out.cell 1).trans rfl
          have c_T2 : wr.cell? ⟨gt, 2, none⟩ = some (.int .i64 nx') := (HK_T.out.cell 2).trans rfl
          have c_T3 : wr.cell? ⟨gt, 3, none⟩ = some (.int .u64 nw') := (HK_T.out.cell 3).trans rfl
          have HC := Lib.hid (snap_c (n := n') (km := 0) (ks := 0) HQ.out HN.out rfl rfl hhc HR_N.out (HTT.out.below HB.out) HSR.out.2 hs6)
          go_wp2_with fail
          refine HC.out.mono ?_
          rintro e wn1 ⟨M1, m1, S1, s1, rfl, hm1, hs1, hbn⟩
          clear c_T0 c_T1 c_T2 c_T3 HC
          have k_T := HK_T.out.below hbn HK_T.out.lt
          have r_N := HR_N.out.below hbn
          have bel := HB.out.trans (hbn.mono HB.out.size)
          clear HK_T HR_N HB hbn
          have HK_T := Lib.hid k_T
          have HR_N := Lib.hid r_N
          have HB := Lib.hid bel
          clear k_T r_N bel
          have HR_S := Lib.hid hs1
          clear hs1
          clear hm1
          obtain ⟨g_P, hg⟩ : ∃ g, g = wn1.heap.size := ⟨_, rfl⟩
          have lt_T_P : gt < g_P := by have := HK_T.out.lt; omega
          have bs_P : w.heap.size ≤ g_P := by have := HB.out.size; omega
          have HG := Lib.hid hg
          clear hg
          go_upto_region 18 with fail
          have hbx : Below wn1.heap.size wn1 (wn1.alloc (.cells #[.slice M1 0 m1, .slice S1 0 s1] 33)) := (Below.refl _ _).alloc (Nat.le_refl _) _
          have hkx := Blk.new wn1 33 #[.slice M1 0 m1, .slice S1 0 s1]
          rw [← HG.out] at hkx ⊢
          generalize (wn1.alloc (.cells #[.slice M1 0 m1, .slice S1 0 s1] 33)) = wn2 at hbx hkx ⊢
          clear HG
          have k_T := HK_T.out.below hbx HK_T.out.lt
          have r_N := HR_N.out.below hbx
          have r_S := HR_S.out.below hbx
          have bel := HB.out.trans (hbx.mono HB.out.size)
          clear HK_T HR_N HR_S HB hbx
          have HK_T := Lib.hid k_T
          have HR_N := Lib.hid r_N
          have HR_S := Lib.hid r_S
          have HB := Lib.hid bel
          clear k_T r_N r_S bel
          have HK_P := Lib.hid hkx
          clear hkx
          have c_T0 : wn2.cell? ⟨gt, 0, none⟩ = some (.slice A' n' cap') := (HK_T.out.cell 0).trans rfl
          have c_T1 : wn2.cell? ⟨gt, 1, none⟩ = some (.int .i64 lv') := (HK_T.out.cell 1).trans rfl
          have c_T2 : wn2.cell? ⟨gt, 2, none⟩ = some (.int .i64 nx') := (HK_T.out.cell 2).trans rfl
          have c_T3 : wn2.cell? ⟨gt, 3, none⟩ = some (.int .u64 nw') := (HK_T.out.cell 3).trans rfl
          have c_P0 : wn2.cell? ⟨g_P, 0, none⟩ = some (.slice M1 0 m1) := (HK_P.out.cell 0).trans rfl
          have c_P1 : wn2.cell? ⟨g_P, 1, none⟩ = some (.slice S1 0 s1) := (HK_P.out.cell 1).trans rfl
          have HC := Lib.hid (done_c (l' := l') (lv' := lv') (nx' := nx') (nw' := nw') (er := 0) (n := n') (n' := n') (ks := 0) (sc := s1) (km := 0) (mc := m1) (MA := M1) (ps := []) rfl HN.out HN.out rfl hhc HR_N.out (HTT.out.below HB.out) HSR.out.2 HR_S.out (by decide) (fun x hx => by cases hx))
          go_wp2_with fail
          refine HC.out.mono ?_
          rintro e wn3 ⟨A2, c2, rfl, hc2, hn2, hbn⟩
          clear c_T0 c_T1 c_T2 c_T3 c_P0 c_P1 HC
          have k_T := HK_T.out.below hbn HK_T.out.lt
          have k_P := HK_P.out.below hbn HK_P.out.lt
          have r_N := HR_N.out.below hbn
          have r_S := HR_S.out.below hbn
          have bel := HB.out.trans (hbn.mono HB.out.size)
          clear HK_T HK_P HR_N HR_S HB hbn
          have HK_T := Lib.hid k_T
          have HK_P := Lib.hid k_P
          have HR_N := Lib.hid r_N
          have HR_S := Lib.hid r_S
          have HB := Lib.hid bel
          clear k_T k_P r_N r_S bel
          have HR_U := Lib.hid hn2
          clear hn2
          obtain ⟨g_U, hg⟩ : ∃ g, g = wn3.heap.size := ⟨_, rfl⟩
          have lt_T_U : gt < g_U := by have := HK_T.out.lt; omega
          have lt_P_U : g_P < g_U := by have := HK_P.out.lt; omega
          have bs_U : w.heap.size ≤ g_U := by have := HB.out.size; omega
          have HG := Lib.hid hg
          clear hg
          go_upto_region 19 with fail
          have hbx : Below wn3.heap.size wn3 (wn3.alloc (.cells #[.slice A2 n' c2, .int .i64 lv', .int .i64 nx', .int .u64 nw'] 28)) := (Below.refl _ _).alloc (Nat.le_refl _) _
          have hkx := Blk.new wn3 28 #[.slice A2 n' c2, .int .i64 lv', .int .i64 nx', .int .u64 nw']
          rw [← HG.out] at hkx ⊢
          generalize (wn3.alloc (.cells #[.slice A2 n' c2, .int .i64 lv', .int .i64 nx', .int .u64 nw'] 28)) = wn4 at hbx hkx ⊢
          clear HG
          have k_T := HK_T.out.below hbx HK_T.out.lt
          have k_P := HK_P.out.below hbx HK_P.out.lt
          have r_N := HR_N.out.below hbx
          have r_S := HR_S.out.below hbx
          have r_U := HR_U.out.below hbx
          have bel := HB.out.trans (hbx.mono HB.out.size)
          clear HK_T HK_P HR_N HR_S HR_U HB hbx
          have HK_T := Lib.hid k_T
          have HK_P := Lib.hid k_P
          have HR_N := Lib.hid r_N
          have HR_S := Lib.hid r_S
          have HR_U := Lib.hid r_U
          have HB := Lib.hid bel
          clear k_T k_P r_N r_S r_U bel
          have HK_U := Lib.hid hkx
          clear hkx
          go_upto_region 20 with fail
          have c_T0 : wn4.cell? ⟨gt, 0, none⟩ = some (.slice A' n' cap') := (HK_T.out.cell 0).trans rfl
          have c_T1 : wn4.cell? ⟨gt, 1, none⟩ = some (.int .i64 lv') := (HK_T.out.cell 1).trans rfl
          have c_T2 : wn4.cell? ⟨gt, 2, none⟩ = some (.int .i64 nx') := (HK_T.out.cell 2).trans rfl
          have c_T3 : wn4.cell? ⟨gt, 3, none⟩ = some (.int .u64 nw') := (HK_T.out.cell 3).trans rfl
          have c_U0 : wn4.cell? ⟨g_U, 0, none⟩ = some (.slice A2 n' c2) := (HK_U.out.cell 0).trans rfl
          have c_U1 : wn4.cell? ⟨g_U, 1, none⟩ = some (.int .i64 lv') := (HK_U.out.cell 1).trans rfl
          have c_U2 : wn4.cell? ⟨g_U, 2, none⟩ = some (.int .i64 nx') := (HK_U.out.cell 2).trans rfl
          have c_U3 : wn4.cell? ⟨g_U, 3, none⟩ = some (.int .u64 nw') := (HK_U.out.cell 3).trans rfl
          have hl0 : gt < wn4.heap.size := HK_T.out.lt
          have hl1 : g_U < wn4.heap.size := HK_U.out.lt
          have hkeep : ∀ w', Below wn4.heap.size wn4 w' → w'.cell? ⟨gt, 0, none⟩ = some (.slice A' n' cap') ∧ w'.cell? ⟨gt, 1, none⟩ = some (.int .i64 lv') ∧ w'.cell? ⟨gt, 2, none⟩ = some (.int .i64 nx') ∧ w'.cell? ⟨gt, 3, none⟩ = some (.int .u64 nw') ∧ w'.cell? ⟨g_U, 0, none⟩ = some (.slice A2 n' c2) ∧ w'.cell? ⟨g_U, 1, none⟩ = some (.int .i64 lv') ∧ w'.cell? ⟨g_U, 2, none⟩ = some (.int .i64 nx') ∧ w'.cell? ⟨g_U, 3, none⟩ = some (.int .u64 nw') := fun w' hb => ⟨(hb.cell (p := ⟨gt, 0, none⟩) hl0).trans c_T0, (hb.cell (p := ⟨gt, 1, none⟩) hl0).trans c_T1, (hb.cell (p := ⟨gt, 2, none⟩) hl0).trans c_T2, (hb.cell (p := ⟨gt, 3, none⟩) hl0).trans c_T3, (hb.cell (p := ⟨g_U, 0, none⟩) hl1).trans c_U0, (hb.cell (p := ⟨g_U, 1, none⟩) hl1).trans c_U1, (hb.cell (p := ⟨g_U, 2, none⟩) hl1).trans c_U2, (hb.cell (p := ⟨g_U, 3, none⟩) hl1).trans c_U3⟩
          have HKP := Lib.hid hkeep
          have has := fun (wx : World) (hb : Below wn4.heap.size wn4 wx) => as_c (lv := lv') (nx := nx') (nw := nw') (cap := cap') HN.out (by omega) (HR_N.out.below hb)
          have hsa := fun (B : Option Addr) (cb : Nat) (wx : World) (hb : Below wn4.heap.size wn4 wx) (hq : RefsAt wx B l') => same_c (lv := lv') (nx := nx') (nw := nw') (cap := c2) (cb := cb) HN.out (by omega) (HR_U.out.below hb) hq
          have HAS := Lib.hid has
          have HSA := Lib.hid hsa
          clear hkeep has hsa
          go_region_held3 (fun w' => w'.cell? ⟨gt, 0, none⟩ = some (.slice A' n' cap') ∧ w'.cell? ⟨gt, 1, none⟩ = some (.int .i64 lv') ∧ w'.cell? ⟨gt, 2, none⟩ = some (.int .i64 nx') ∧ w'.cell? ⟨gt, 3, none⟩ = some (.int .u64 nw') ∧ w'.cell? ⟨g_U, 0, none⟩ = some (.slice A2 n' c2) ∧ w'.cell? ⟨g_U, 1, none⟩ = some (.int .i64 lv') ∧ w'.cell? ⟨g_U, 2, none⟩ = some (.int .i64 nx') ∧ w'.cell? ⟨g_U, 3, none⟩ = some (.int .u64 nw'))
            (first | exact HKP.out _ (below_drew1 (Below.refl _ _)) | exact HKP.out _ hbl6 | exact HKP.out _ hbl5 | fail)
            (first
              | (go_at_call 16; refine (HAS.out _ ?_).mono ?_; (exact below_drew1 (Below.refl _ _)); (rintro e w5 ⟨B5, cb5, rfl, hq5, hb5⟩; have hbl5 : Below wn4.heap.size wn4 w5 := (below_drew1 (Below.refl _ _)).trans hb5; have HQ5 := Lib.hid hq5; clear hq5 hb5))
              | (go_at_call 15; refine (HSA.out _ _ _ hbl5 HQ5.out).mono ?_; (rintro e w6 ⟨rfl, hb6⟩; have hbl6 : Below wn4.heap.size wn4 w6 := hbl5.trans (hb6.mono hbl5.size)))
              | fail)
          all_goals have HB6 := Lib.hid hbl6
          all_goals clear hbl6 hbl5
          all_goals go_wp2_with fail
          all_goals go_ret
          all_goals exact ⟨rfl, HB.out.trans (HB6.out.mono HB.out.size)⟩
end Go.Proofs.YtfdhehjfbcddgaaDoor.Pr
