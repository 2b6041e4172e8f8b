/- (tree.Tree).depth and tree.Runs: how many ghosts there are from a node up; the longest run. Condition: the nodes are not more than a million. -/
import Derived.Test.YtfdhehjfbcddgaaDoorTWell
namespace Go.Proofs.YtfdhehjfbcddgaaDoor.Pr
open Go.RowKit Go.Proofs.YtfdhehjfbcddgaaDoorW.PrintWords Go.Proofs.YtfdhehjfbcddgaaDoorW.PrintLast Go.Proofs.YtfdhehjfbcddgaaDoor
set_option linter.unusedVariables false
def depthR (l : List Nd) : Nat → Nat → Int → Nat
  | 0, n, _ => n
  | r + 1, n, a => if (findN l a).2 = true ∧ (findN l a).1.ghost = true then depthR l r (n + 1) (findN l a).1.par else n
def depthN (l : List Nd) (a : Int) : Nat := depthR l (l.length + 1) 0 a
set_option maxRecDepth 100000 in
set_option maxHeartbeats 4000000 in
theorem depth_any (A : Option Addr) (cap : Nat) (l : List Nd) (lv nx nw : Int) (a : Int) (w : World) (hl : l.length ≤ 1000000) (hr : NodesAt w A l) :
    Calls Tryd.prog 59 #[.agg #[.slice A l.length cap, .int .i64 lv, .int .i64 nx, .int .u64 nw], .int .i64 a] w fun e w' => e = .returned (.int .i64 (depthN l a : Int)) ∧ Below w.heap.size w w' := by
  have hbel : Below w.heap.size w (w.alloc (.cells #[.slice A l.length cap, .int .i64 lv, .int .i64 nx, .int .u64 nw] 28)) := (Below.refl _ _).alloc (Nat.le_refl _) _
  have hk0 := Blk.new w 28 #[.slice A l.length cap, .int .i64 lv, .int .i64 nx, .int .u64 nw]
  have hsz : (w.alloc (.cells #[.slice A l.length cap, .int .i64 lv, .int .i64 nx, .int .u64 nw] 28)).heap.size = w.heap.size + 1 := by simp
  have hfind := fun (b : Int) (w1 : World) (hx : NodesAt w1 A l) => find_any A cap l lv nx nw b w1 hl hx
  have hr0 := hr.below hbel
  obtain ⟨n, hn⟩ : ∃ n, l.length = n := ⟨_, rfl⟩
  obtain ⟨D, hD⟩ : ∃ D, depthN l a = D := ⟨_, rfl⟩
  have hdd : D = depthR l (n + 1) 0 a := by rw [← hD, ← hn]; rfl
  rw [hn] at hl hbel hk0 hsz hr0 hfind
  rw [hD, hn]
  have HF := Lib.hid hfind
  have HDD := Lib.hid hdd
  clear hr hfind hD hdd hn
  go_enter Tryd.func59, Tryd.ntmps59
  go_upto_region 1 with fail
  generalize (w.alloc (.cells #[.slice A n cap, .int .i64 lv, .int .i64 nx, .int .u64 nw] 28)) = w0 at hbel hk0 hsz hr0 ⊢
  have HB := Lib.hid hbel
  have HK := Lib.hid hk0
  have HSZ := Lib.hid hsz
  have HR := Lib.hid hr0
  have t0 : w0.cell? ⟨w.heap.size, 0, none⟩ = some (.slice A n cap) := (hk0.cell 0).trans rfl
  clear hbel hk0 hsz hr0
  go_wp2_with fail
  go_loopw [1, 12] (fun v1 v12 wr => ∃ (j : Nat) (cur : Int), j ≤ n + 1 ∧ v1 = .int .i64 cur ∧ v12 = .int .i64 (j : Int) ∧ Hid (D = depthR l (n + 1 - j) j cur) ∧ Hid (Below w0.heap.size w0 wr)) (fun _ v12 _ => n + 1 - (intOf v12).toNat)
  case atStart => exact ⟨0, a, by omega, rfl, rfl, HDD, Lib.hid (Below.refl _ _)⟩
  case round =>
    clear t0 HDD
    obtain ⟨j, cur, hj, rfl, rfl, hd, hb⟩ := hrel
    have k0 := HK.out.below hb.out (by rw [HSZ.out]; omega)
    have z0 : wr.cell? ⟨w.heap.size, 0, none⟩ = some (.slice A n cap) := (k0.cell 0).trans rfl
    have z1 : wr.cell? ⟨w.heap.size, 1, none⟩ = some (.int .i64 lv) := (k0.cell 1).trans rfl
    have z2 : wr.cell? ⟨w.heap.size, 2, none⟩ = some (.int .i64 nx) := (k0.cell 2).trans rfl
    have z3 : wr.cell? ⟨w.heap.size, 3, none⟩ = some (.int .u64 nw) := (k0.cell 3).trans rfl
    clear k0
    by_cases hlt : j < n + 1
    · have hd2 := hd.out
      rw [show n + 1 - j = (n - j) + 1 by omega, depthR] at hd2
      have hf := HF.out cur wr (HR.out.below hb.out)
      obtain ⟨⟨x, ok⟩, hfe⟩ : ∃ q, findN l cur = q := ⟨_, rfl⟩
      rw [hfe] at hf hd2
      obtain ⟨y0, y1, y2, y3, y4, y5⟩ := x
      unfold valN at hf
      dsimp only at hf hd2
      have HF1 := Lib.hid hf
      have HD2 := Lib.hid hd2
      clear hf hd2 hd hfe
      go_wp2_with fail
      refine HF1.out.mono ?_
      rintro e w1 ⟨rfl, hb1⟩
      have hb1' := hb.out.trans (hb1.mono hb.out.size)
      have hx := Blk.new w1 42 #[.int .i64 y0, .int .i64 y1, .string y2, .int .u64 y3, .bool y4, .bool y5]
      have hb2 := hb1'.alloc hb1'.size (.cells #[.int .i64 y0, .int .i64 y1, .string y2, .int .u64 y3, .bool y4, .bool y5] 42)
      obtain ⟨g, hg⟩ : ∃ g, g = w1.heap.size := ⟨_, rfl⟩
      clear hb1 hb1' z0 z1 z2 z3 HF1
      go_upto_region 5 with fail
      rw [← hg] at hx ⊢
      generalize (w1.alloc (.cells #[.int .i64 y0, .int .i64 y1, .string y2, .int .u64 y3, .bool y4, .bool y5] 42)) = w2 at hx hb2 ⊢
      have x1 : w2.cell? ⟨g, 1, none⟩ = some (.int .i64 y1) := (hx.cell 1).trans rfl
      have x4 : w2.cell? ⟨g, 4, none⟩ = some (.bool y4) := (hx.cell 4).trans rfl
      have HB2 := Lib.hid hb2
      clear hx hb2 hg hb
      cases ok with
      | false =>
        have hd3 := HD2.out
        rw [if_neg (by simp)] at hd3
        subst hd3
        clear HD2
        go_wp2
        go_ret
        exact ⟨rfl, HB.out.trans (HB2.out.mono HB.out.size)⟩
      | true =>
        cases y4 with
        | false =>
          have hd3 := HD2.out
          rw [if_neg (by simp)] at hd3
          subst hd3
          clear HD2
          go_wp2
          go_ret
          exact ⟨rfl, HB.out.trans (HB2.out.mono HB.out.size)⟩
        | true =>
          have hd3 := HD2.out
          rw [if_pos ⟨rfl, rfl⟩] at hd3
          have HD3 := Lib.hid hd3
          clear HD2 hd3
          go_wp2
          go_roundw
          case rel => exact ⟨j + 1, y1, by omega, rfl, by go_num, by rw [show n + 1 - (j + 1) = n - j by omega]; exact HD3, HB2⟩
          case measure => simp [intOf]; omega
    · obtain rfl : j = n + 1 := by omega
      have hd2 := hd.out
      rw [Nat.sub_self, depthR] at hd2
      subst hd2
      clear hd
      go_wp2
      go_ret
      exact ⟨rfl, HB.out.trans (hb.out.mono HB.out.size)⟩
/-- the longest run of ghosts -/
def runsN (l : List Nd) : Nat := l.foldl (fun m x => max m (depthN l x.id)) 0
theorem runs_step (l : List Nd) (j : Nat) (h : j < l.length) (m : Nat) : (l.drop j).foldl (fun m x => max m (depthN l x.id)) m = (l.drop (j + 1)).foldl (fun m x => max m (depthN l x.id)) (max m (depthN l l[j].id)) := by
  rw [List.drop_eq_getElem_cons h, List.foldl_cons]
theorem depthR_le (l : List Nd) : ∀ (r n : Nat) (a : Int), depthR l r n a ≤ n + r
  | 0, n, a => Nat.le_refl _
  | r + 1, n, a => by
    rw [depthR]
    split
    · have := depthR_le l r (n + 1) (findN l a).1.par
      omega
    · omega
theorem depthN_le (l : List Nd) (a : Int) : depthN l a ≤ l.length + 1 := by
  have := depthR_le l (l.length + 1) 0 a
  unfold depthN
  omega
set_option maxRecDepth 100000 in
set_option maxHeartbeats 4000000 in
theorem runs_any (A : Option Addr) (cap : Nat) (l : List Nd) (lv nx nw : Int) (w : World) (hl : l.length ≤ 1000000) (hr : NodesAt w A l) :
    Calls Tryd.prog 27 #[.agg #[.slice A l.length cap, .int .i64 lv, .int .i64 nx, .int .u64 nw]] w fun e w' => e = .returned (.int .i64 (runsN l : Int)) ∧ Below w.heap.size w w' := by
  have hbel : Below w.heap.size w (w.alloc (.cells #[.slice A l.length cap, .int .i64 lv, .int .i64 nx, .int .u64 nw] 28)) := (Below.refl _ _).alloc (Nat.le_refl _) _
  have hk0 := Blk.new w 28 #[.slice A l.length cap, .int .i64 lv, .int .i64 nx, .int .u64 nw]
  have hsz : (w.alloc (.cells #[.slice A l.length cap, .int .i64 lv, .int .i64 nx, .int .u64 nw] 28)).heap.size = w.heap.size + 1 := by simp
  have hdep := fun (b : Int) (w1 : World) (hx : NodesAt w1 A l) => depth_any A cap l lv nx nw b w1 hl hx
  have hr0 := hr.below hbel
  obtain ⟨n, hn⟩ : ∃ n, l.length = n := ⟨_, rfl⟩
  obtain ⟨D, hD⟩ : ∃ D, runsN l = D := ⟨_, rfl⟩
  have hdd : D = (l.drop 0).foldl (fun m x => max m (depthN l x.id)) 0 := by rw [← hD]; rfl
  have HN := Lib.hid hn
  rw [hn] at hl hbel hk0 hsz hr0 hdep
  rw [hD, hn]
  have HF := Lib.hid hdep
  have HDD := Lib.hid hdd
  clear hr hdep hD hdd hn
  go_enter Tryd.func27, Tryd.ntmps27
  go_upto_region 1 with fail
  generalize (w.alloc (.cells #[.slice A n cap, .int .i64 lv, .int .i64 nx, .int .u64 nw] 28)) = w0 at hbel hk0 hsz hr0 ⊢
  have HB := Lib.hid hbel
  have HK := Lib.hid hk0
  have HSZ := Lib.hid hsz
  have HR := Lib.hid hr0
  have t0 : w0.cell? ⟨w.heap.size, 0, none⟩ = some (.slice A n cap) := (hk0.cell 0).trans rfl
  clear hbel hk0 hsz hr0
  go_wp2_with fail
  go_loopw [3, 9] (fun v3 v9 wr => ∃ (j m : Nat), j ≤ n ∧ v3 = .int .i64 (m : Int) ∧ v9 = .int .i64 (j : Int) ∧ m ≤ n + 1 ∧ Hid (D = (l.drop j).foldl (fun m x => max m (depthN l x.id)) m) ∧ Hid (Below w0.heap.size w0 wr)) (fun _ v9 _ => n - (intOf v9).toNat)
  case atStart => exact ⟨0, 0, by omega, rfl, rfl, by omega, HDD, Lib.hid (Below.refl _ _)⟩
  case round =>
    clear t0 HDD
    obtain ⟨j, m, hj, rfl, rfl, hm, hd, hb⟩ := hrel
    by_cases hlt : j < n
    · have hjl : j < l.length := by rw [HN.out]; exact hlt
      obtain ⟨b, off, rfl, ⟨cs, fr, hob⟩, hcell⟩ := HR.out (by omega)
      have hblt := obj_lt hob
      obtain ⟨hc0, hc1, hc2, hc3, hc4, hc5⟩ := nodes_get hcell j hjl
      have hd2 := hd.out
      rw [runs_step l j hjl] at hd2
      have hdl := depthN_le l l[j].id
      rw [HN.out] at hdl
      have hdc := HF.out l[j].id
      obtain ⟨x, hx⟩ : ∃ x, l[j]'hjl = x := ⟨_, rfl⟩
      rw [hx] at hc0 hc1 hc2 hc3 hc4 hc5 hd2 hdl hdc
      obtain ⟨y0, y1, y2, y3, y4, y5⟩ := x
      dsimp only at hc0 hc1 hc2 hc3 hc4 hc5 hd2 hdl hdc
      have d0 := (hb.out.cell (p := ⟨b, off + j * 6, none⟩) hblt).trans hc0
      have d1 := (hb.out.cell (p := ⟨b, off + j * 6 + 1, none⟩) hblt).trans hc1
      have d2 := (hb.out.cell (p := ⟨b, off + j * 6 + 2, none⟩) hblt).trans hc2
      have d3 := (hb.out.cell (p := ⟨b, off + j * 6 + 3, none⟩) hblt).trans hc3
      have d4 := (hb.out.cell (p := ⟨b, off + j * 6 + 4, none⟩) hblt).trans hc4
      have d5 := (hb.out.cell (p := ⟨b, off + j * 6 + 5, none⟩) hblt).trans hc5
      have hx1 := Blk.new wr 42 #[.int .i64 y0, .int .i64 y1, .string y2, .int .u64 y3, .bool y4, .bool y5]
      have hb2 := hb.out.alloc hb.out.size (.cells #[.int .i64 y0, .int .i64 y1, .string y2, .int .u64 y3, .bool y4, .bool y5] 42)
      obtain ⟨dp, hdp⟩ : ∃ dp, depthN l y0 = dp := ⟨_, rfl⟩
      rw [hdp] at hd2 hdl hdc
      have HD2 := Lib.hid hd2
      have HDC := Lib.hid hdc
      obtain ⟨g, hg⟩ : ∃ g, g = wr.heap.size := ⟨_, rfl⟩
      clear hcell hc0 hc1 hc2 hc3 hc4 hc5 hx hob hd hd2 hdc hdp
      go_upto_region 5 with fail
      rw [← hg] at hx1 ⊢
      generalize (wr.alloc (.cells #[.int .i64 y0, .int .i64 y1, .string y2, .int .u64 y3, .bool y4, .bool y5] 42)) = w2 at hx1 hb2 ⊢
      have x0 : w2.cell? ⟨g, 0, none⟩ = some (.int .i64 y0) := (hx1.cell 0).trans rfl
      have HB2 := Lib.hid hb2
      have k0 := HK.out.below hb2 (by rw [HSZ.out]; omega)
      have z0 : w2.cell? ⟨w.heap.size, 0, none⟩ = some (.slice (some ⟨b, off, none⟩) n cap) := (k0.cell 0).trans rfl
      have z1 : w2.cell? ⟨w.heap.size, 1, none⟩ = some (.int .i64 lv) := (k0.cell 1).trans rfl
      have z2 : w2.cell? ⟨w.heap.size, 2, none⟩ = some (.int .i64 nx) := (k0.cell 2).trans rfl
      have z3 : w2.cell? ⟨w.heap.size, 3, none⟩ = some (.int .u64 nw) := (k0.cell 3).trans rfl
      clear d0 d1 d2 d3 d4 d5 hx1 hb2 hg hb k0
      go_wp2_with fail
      refine (HDC.out _ (HR.out.below HB2.out)).mono ?_
      rintro e w3 ⟨rfl, hb3⟩
      have HB3 := Lib.hid (HB2.out.trans (hb3.mono HB2.out.size))
      clear hb3 z0 z1 z2 z3 x0 HDC HB2
      go_wp2_with fail
      go_roundw
      case rel => exact ⟨j + 1, max m dp, by omega, congrArg (Value.int .i64) (by omega), by go_num, by omega, HD2, HB3⟩
      case measure => simp [intOf]; omega
    · obtain rfl : j = n := by omega
      have hd2 := hd.out
      rw [List.drop_of_length_le (by rw [HN.out]; exact Nat.le_refl _), List.foldl_nil] at hd2
      subst hd2
      clear hd
      go_wp2
      go_ret
      exact ⟨rfl, HB.out.trans (hb.out.mono HB.out.size)⟩
end Go.Proofs.YtfdhehjfbcddgaaDoor.Pr
