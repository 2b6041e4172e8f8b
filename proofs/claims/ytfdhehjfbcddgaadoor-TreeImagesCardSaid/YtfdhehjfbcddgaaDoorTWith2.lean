/- (tree.Tree).with, for the closures of change. Conditions: the nodes are not more than a million; the number is found. -/
import Derived.Test.YtfdhehjfbcddgaaDoorTPlace
section
namespace Go.Proofs.YtfdhehjfbcddgaaDoor.Pr
open Go.RowKit Go.Proofs.YtfdhehjfbcddgaaDoorW.PrintWords Go.Proofs.YtfdhehjfbcddgaaDoorW.PrintLast Go.Proofs.YtfdhehjfbcddgaaDoor
set_option linter.unusedVariables false
theorem tr_info : (Tryd.prog.info? 28).map (·.size) = some 4 := by kernel_rfl
/-- one node of a row is another one -/
theorem set_node {l : List Nd} {q : Nat} (hq : q < l.length) (y : Nd) :
    ((((((flatE encN l).set (q * 6) (.int .i64 y.id)).set (q * 6 + 1) (.int .i64 y.par)).set (q * 6 + 2) (.string y.name)).set (q * 6 + 3) (.int .u64 y.time)).set (q * 6 + 4) (.bool y.ghost)).set (q * 6 + 5) (.bool y.pin) = flatE encN (l.set q y) := by
  have hl : (flatE encN (l.take q)).length = q * 6 := by rw [flatE_length encN_len, List.length_take]; omega
  have e : l = l.take q ++ (l[q] :: l.drop (q + 1)) := by rw [← List.drop_eq_getElem_cons hq, List.take_append_drop]
  have e2 : l.set q y = l.take q ++ (y :: l.drop (q + 1)) := by
    conv => lhs; rw [e]
    rw [List.set_append_right _ _ (by rw [List.length_take]; omega), List.length_take, show q - min q l.length = 0 by omega]
    rfl
  rw [e2, flatE_append, flatE_cons]
  conv => lhs; rw [e]
  rw [flatE_append, flatE_cons]
  rw [List.set_append_right _ _ (by omega), List.set_append_right _ _ (by omega), List.set_append_right _ _ (by omega), List.set_append_right _ _ (by omega), List.set_append_right _ _ (by omega), List.set_append_right _ _ (by omega), hl, Nat.sub_self, show q * 6 + 1 - q * 6 = 1 by omega, show q * 6 + 2 - q * 6 = 2 by omega, show q * 6 + 3 - q * 6 = 3 by omega, show q * 6 + 4 - q * 6 = 4 by omega, show q * 6 + 5 - q * 6 = 5 by omega]
  rfl
def setPar (pa : Int) (x : Nd) : Nd := { x with par := pa }
set_option maxRecDepth 100000 in
theorem move1_any (x : Nd) (a : Int) (c : Nat) (w : World) (hc : w.cell? ⟨c, 0, none⟩ = some (.int .i64 a)) :
    Calls Tryd.prog 68 #[valN x, .pointer (some ⟨c, 0, none⟩)] w fun e w' => e = .returned (valN (setPar a x)) ∧ Below w.heap.size w w' := by
  have hlt := block_lt_of_cell hc
  obtain ⟨y0, y1, y2, y3, y4, y5⟩ := x
  unfold valN setPar
  go_enter Tryd.func68, Tryd.ntmps68
  go_wp2
  have h3 : Blk ((w.alloc (.cells #[.int .i64 y0, .int .i64 a, .string y2, .int .u64 y3, .bool y4, .bool y5] 42)).alloc (.cells #[.int .i64 y0, .int .i64 a, .string y2, .int .u64 y3, .bool y4, .bool y5] 42)) (w.heap.size + 1) 42 #[.int .i64 y0, .int .i64 a, .string y2, .int .u64 y3, .bool y4, .bool y5] := by
    have h := Blk.new (w.alloc (.cells #[.int .i64 y0, .int .i64 a, .string y2, .int .u64 y3, .bool y4, .bool y5] 42)) 42 #[.int .i64 y0, .int .i64 a, .string y2, .int .u64 y3, .bool y4, .bool y5]
    rw [show (w.alloc (.cells #[.int .i64 y0, .int .i64 a, .string y2, .int .u64 y3, .bool y4, .bool y5] 42)).heap.size = w.heap.size + 1 by simp] at h
    exact h
  refine bodyPost_ret (results_cell_row rfl _ _ (w.heap.size + 1) _ _ _ _ rfl h3 Tryd.underlying42 rfl (by rw [nd_info]; rfl)) rfl ?_
  exact ⟨rfl, ((Below.refl _ _).alloc (Nat.le_refl _) _).alloc (by simp) _⟩
set_option maxRecDepth 100000 in
set_option maxHeartbeats 4000000 in
theorem with_move_any (A : Option Addr) (cap : Nat) (l : List Nd) (lv nx nw : Int) (a pa : Int) (c : Nat) (w : World) (hl : l.length ≤ 1000000) (hr : NodesAt w A l) (hc : w.cell? ⟨c, 0, none⟩ = some (.int .i64 pa)) (hp : plc l a < l.length) :
    Calls Tryd.prog 67 #[.agg #[.slice A l.length cap, .int .i64 lv, .int .i64 nx, .int .u64 nw], .int .i64 a, .func (.func 68) #[] #[.pointer (some ⟨c, 0, none⟩)]] w fun e w' => ∃ (g cp : Nat), e = .returned (.tuple #[.agg #[.slice (some ⟨g, 0, none⟩) l.length cp, .int .i64 lv, .int .i64 nx, .int .u64 nw], .int .i64 0]) ∧ l.length ≤ cp ∧ NodesAt w' (some ⟨g, 0, none⟩) (l.set (plc l a) (setPar pa (l.getD (plc l a) zN))) ∧ Below w.heap.size w w' := by
  have hlt := block_lt_of_cell hc
  have hbel : Below w.heap.size w ((w.alloc (.cells #[.slice A l.length cap, .int .i64 lv, .int .i64 nx, .int .u64 nw] 28)).alloc (.cells #[.slice none 0 0, .int .i64 0, .int .i64 0, .int .u64 0] 28)) := ((Below.refl _ _).alloc (Nat.le_refl _) _).alloc (by simp) _
  have hk0 : Blk ((w.alloc (.cells #[.slice A l.length cap, .int .i64 lv, .int .i64 nx, .int .u64 nw] 28)).alloc (.cells #[.slice none 0 0, .int .i64 0, .int .i64 0, .int .u64 0] 28)) w.heap.size 28 #[.slice A l.length cap, .int .i64 lv, .int .i64 nx, .int .u64 nw] := (Blk.new w 28 #[.slice A l.length cap, .int .i64 lv, .int .i64 nx, .int .u64 nw]).alloc _
  have hk1 : Blk ((w.alloc (.cells #[.slice A l.length cap, .int .i64 lv, .int .i64 nx, .int .u64 nw] 28)).alloc (.cells #[.slice none 0 0, .int .i64 0, .int .i64 0, .int .u64 0] 28)) (w.heap.size + 1) 28 #[.slice none 0 0, .int .i64 0, .int .i64 0, .int .u64 0] := by
    have h := Blk.new (w.alloc (.cells #[.slice A l.length cap, .int .i64 lv, .int .i64 nx, .int .u64 nw] 28)) 28 #[.slice none 0 0, .int .i64 0, .int .i64 0, .int .u64 0]
    rw [show (w.alloc (.cells #[.slice A l.length cap, .int .i64 lv, .int .i64 nx, .int .u64 nw] 28)).heap.size = w.heap.size + 1 by simp] at h
    exact h
  have hplace := fun (w1 : World) (h1 : NodesAt w1 A l) => place_any A cap l lv nx nw a w1 hl h1
  have hclone := fun (w1 : World) (h1 : NodesAt w1 A l) => tclone_any A cap l w1 h1 hl
  have hr0 := hr.below hbel
  have hc0 := (hbel.cell (p := ⟨c, 0, none⟩) hlt).trans hc
  obtain ⟨q, hq⟩ : ∃ q, plc l a = q := ⟨_, rfl⟩
  rw [hq]
  rw [hq] at hplace hp
  obtain ⟨NL, hNL⟩ : ∃ NL, l.set q (setPar pa (l.getD q zN)) = NL := ⟨_, rfl⟩
  rw [hNL]
  have HNL := Lib.hid hNL
  obtain ⟨n, hn⟩ : ∃ n, l.length = n := ⟨_, rfl⟩
  rw [hn] at hbel hk0 hk1 hplace hclone hr0 hc0
  rw [hn]
  have HPL := Lib.hid hplace
  have HCL := Lib.hid hclone
  have HN := Lib.hid hn
  have HP := Lib.hid hp
  have hqn : q < n := by rw [← hn]; exact hp
  clear hplace hclone hr hc hq hNL
  go_enter Tryd.func67, Tryd.ntmps67
  go_upto_region 1 with fail
  generalize ((w.alloc (.cells #[.slice A n cap, .int .i64 lv, .int .i64 nx, .int .u64 nw] 28)).alloc (.cells #[.slice none 0 0, .int .i64 0, .int .i64 0, .int .u64 0] 28)) = w0 at hbel hk0 hk1 hr0 hc0 ⊢
  have t0 : w0.cell? ⟨w.heap.size, 0, none⟩ = some (.slice A n cap) := (hk0.cell 0).trans rfl
  have t1 : w0.cell? ⟨w.heap.size, 1, none⟩ = some (.int .i64 lv) := (hk0.cell 1).trans rfl
  have t2 : w0.cell? ⟨w.heap.size, 2, none⟩ = some (.int .i64 nx) := (hk0.cell 2).trans rfl
  have t3 : w0.cell? ⟨w.heap.size, 3, none⟩ = some (.int .u64 nw) := (hk0.cell 3).trans rfl
  have HB := Lib.hid hbel
  have HK0 := Lib.hid hk0
  have HK1 := Lib.hid hk1
  have HR := Lib.hid hr0
  have HC := Lib.hid hc0
  clear hbel hk0 hk1 hr0 hc0 hn hp
  go_wp2_with fail
  refine (HPL.out _ HR.out).mono ?_
  rintro e w1 ⟨rfl, hb1⟩
  have k01 := HK0.out.below hb1 HK0.out.lt
  have k11 := HK1.out.below hb1 HK1.out.lt
  have r1 := HR.out.below hb1
  have c1 := (hb1.cell (p := ⟨c, 0, none⟩) (block_lt_of_cell HC.out)).trans HC.out
  have t0 : w1.cell? ⟨w.heap.size, 0, none⟩ = some (.slice A n cap) := (k01.cell 0).trans rfl
  have HB1 := Lib.hid (HB.out.trans (hb1.mono HB.out.size))
  have HK01 := Lib.hid k01
  have HK11 := Lib.hid k11
  have HC1 := Lib.hid c1
  have HR1 := Lib.hid r1
  clear hb1 k01 k11 r1 c1 t1 t2 t3 HB HK0 HK1 HR HC HPL
  go_wp2_with fail
  refine (HCL.out _ HR1.out).mono ?_
  rintro e w2 ⟨⟨v, rfl, ho2⟩, hb2⟩
  have hp0 : 0 < n := by omega
  obtain ⟨n1, rfl⟩ : ∃ n1, n = n1 + 1 := ⟨n - 1, by omega⟩
  obtain ⟨g, cg, rfl, hg⟩ : ∃ g cg, v = .slice (some ⟨g, 0, none⟩) (n1 + 1) cg ∧ w1.heap.size ≤ g := by
    rcases ho2.2 with ⟨_, h0⟩ | ⟨g, cap', _, rfl, hb, _⟩
    · omega
    · exact ⟨g, cap', rfl, hb⟩
  have k02 := HK01.out.below hb2 HK01.out.lt
  have k12 := HK11.out.below hb2 HK11.out.lt
  have c2 := (hb2.cell (p := ⟨c, 0, none⟩) (block_lt_of_cell HC1.out)).trans HC1.out
  have HB2 := Lib.hid (HB1.out.trans (hb2.mono HB1.out.size))
  have u0 : w2.cell? ⟨w.heap.size, 0, none⟩ = some (.slice A (n1 + 1) cap) := (k02.cell 0).trans rfl
  have v0 := k02.frozen 0
  have HO2 := Lib.hid ho2
  have HK02 := Lib.hid k02
  have HK12 := Lib.hid k12
  have HC2 := Lib.hid c2
  have hgw : w.heap.size + 1 < w1.heap.size := HK11.out.lt
  clear hb2 ho2 k02 k12 c2 HB1 HK01 HK11 HC1 HR1 HCL t0
  go_upto_region 3 with fail
  have k03 := HK02.out.set_ 0 (.slice (some ⟨g, 0, none⟩) (n1 + 1) cg)
  have k13 := HK12.out.far (p := ⟨w.heap.size, 0, none⟩) (by simp) (.slice (some ⟨g, 0, none⟩) (n1 + 1) cg)
  have ho3 := own_setCell HO2.out (p := ⟨w.heap.size, 0, none⟩) (by simp [Value.ownBlock]; omega) (.slice (some ⟨g, 0, none⟩) (n1 + 1) cg)
  have hb3 := HB2.out.setCell (p := ⟨w.heap.size, 0, none⟩) (Nat.le_refl _) (.slice (some ⟨g, 0, none⟩) (n1 + 1) cg)
  have hc3 : (w2.setCell ⟨w.heap.size, 0, none⟩ (.slice (some ⟨g, 0, none⟩) (n1 + 1) cg)).cell? ⟨c, 0, none⟩ = some (.int .i64 pa) := by
    have hh := Below.heap_setCell w2 ⟨w.heap.size, 0, none⟩ (.slice (some ⟨g, 0, none⟩) (n1 + 1) cg) c (by simp; omega)
    have := HC2.out
    simp only [World.cell?, hh] at this ⊢
    exact this
  clear HK02 HK12 HO2 HB2 HC2 u0 v0 t0
  generalize (w2.setCell ⟨w.heap.size, 0, none⟩ (.slice (some ⟨g, 0, none⟩) (n1 + 1) cg)) = w3 at k03 k13 ho3 hb3 hc3 ⊢
  have u0 : w3.cell? ⟨w.heap.size, 0, none⟩ = some (.slice (some ⟨g, 0, none⟩) (n1 + 1) cg) := (k03.cell 0).trans rfl
  obtain ⟨x, hx⟩ : ∃ x, l.getD q zN = x := ⟨_, rfl⟩
  have gt := fun (j : Nat) (hj : j < 6) => (ho3.cellAt (q * 6 + j) (by omega)).trans (flatE_get encN_len l q HP.out j hj)
  have hxl : l[q]'HP.out = x := by rw [← hx, List.getD_eq_getElem?_getD, List.getElem?_eq_getElem HP.out]; rfl
  rw [hxl] at gt
  have hnl := HNL.out
  rw [hx] at hnl
  have HNL2 := Lib.hid hnl
  obtain ⟨y0, y1, y2, y3, y4, y5⟩ := x
  have s0 : w3.cell? ⟨g, q * 6, none⟩ = some (.int .i64 y0) := (gt 0 (by decide)).trans rfl
  have s1 : w3.cell? ⟨g, q * 6 + 1, none⟩ = some (.int .i64 y1) := (gt 1 (by decide)).trans rfl
  have s2 : w3.cell? ⟨g, q * 6 + 2, none⟩ = some (.string y2) := (gt 2 (by decide)).trans rfl
  have s3 : w3.cell? ⟨g, q * 6 + 3, none⟩ = some (.int .u64 y3) := (gt 3 (by decide)).trans rfl
  have s4 : w3.cell? ⟨g, q * 6 + 4, none⟩ = some (.bool y4) := (gt 4 (by decide)).trans rfl
  have s5 : w3.cell? ⟨g, q * 6 + 5, none⟩ = some (.bool y5) := (gt 5 (by decide)).trans rfl
  have hglt : g < w3.heap.size := (ho3.lt g rfl).2
  have hclt : c < w3.heap.size := block_lt_of_cell hc3
  have HK03 := Lib.hid k03
  have HK13 := Lib.hid k13
  have HO3 := Lib.hid ho3
  have HB3 := Lib.hid hb3
  have HMV := Lib.hid (fun (wx : World) (hb : Below w3.heap.size w3 wx) => move1_any ⟨y0, y1, y2, y3, y4, y5⟩ pa c wx ((hb.cell (p := ⟨c, 0, none⟩) hclt).trans hc3))
  unfold valN setPar at HMV
  dsimp only at HMV
  clear k03 k13 ho3 hb3 hc3 gt hxl hx hnl HNL
  go_cut [] from 8 (fun wx => ∃ w4, Hid (Below w3.heap.size w3 w4) ∧ wx = (((((w4.setCell ⟨g, q * 6, none⟩ (.int .i64 y0)).setCell ⟨g, q * 6 + 1, none⟩ (.int .i64 pa)).setCell ⟨g, q * 6 + 2, none⟩ (.string y2)).setCell ⟨g, q * 6 + 3, none⟩ (.int .u64 y3)).setCell ⟨g, q * 6 + 4, none⟩ (.bool y4)).setCell ⟨g, q * 6 + 5, none⟩ (.bool y5))
  case first =>
    go_region_with ((go_at_call 68
                     refine (HMV.out _ (by repeat (first | (with_reducible exact Below.refl _ _) | apply below_drew1))).mono ?_
                     rintro e w4 ⟨rfl, hb4⟩
                     have HB4 := Lib.hid (show Below w3.heap.size w3 w4 from (below_drew1 (Below.refl w3.heap.size w3)).trans hb4)
                     have e0 := (HB4.out.cell (p := ⟨g, q * 6, none⟩) hglt).trans s0
                     have e1 := (HB4.out.cell (p := ⟨g, q * 6 + 1, none⟩) hglt).trans s1
                     have e2 := (HB4.out.cell (p := ⟨g, q * 6 + 2, none⟩) hglt).trans s2
                     have e3 := (HB4.out.cell (p := ⟨g, q * 6 + 3, none⟩) hglt).trans s3
                     have e4 := (HB4.out.cell (p := ⟨g, q * 6 + 4, none⟩) hglt).trans s4
                     have e5 := (HB4.out.cell (p := ⟨g, q * 6 + 5, none⟩) hglt).trans s5
                     have ho4 := pw_own_below HO3.out HB4.out
                     have f0 := ho4.frozenAt (q * 6)
                     have f1 := ho4.frozenAt (q * 6 + 1)
                     have f2 := ho4.frozenAt (q * 6 + 2)
                     have f3 := ho4.frozenAt (q * 6 + 3)
                     have f4 := ho4.frozenAt (q * 6 + 4)
                     have f5 := ho4.frozenAt (q * 6 + 5)
                     have k4 := (HK03.out.below HB4.out HK03.out.lt)
                     have u4 : w4.cell? ⟨w.heap.size, 0, none⟩ = some (.slice (some ⟨g, 0, none⟩) (n1 + 1) cg) := (k4.cell 0).trans rfl
                     clear ho4 k4 hb4))
    all_goals (go_wp2_with fail; go_meet)
    all_goals exact ⟨_, HB4, rfl⟩
  case rest =>
    obtain ⟨w4, HB4, rfl⟩ := hcut
    have hne0 : w.heap.size ≠ g := by omega
    have hne1 : w.heap.size + 1 ≠ g := by omega
    have k04 := HK03.out.below HB4.out HK03.out.lt
    have k14 := HK13.out.below HB4.out HK13.out.lt
    have ho4 := pw_own_below HO3.out HB4.out
    have hb4 := HB3.out.trans (HB4.out.mono HB3.out.size)
    have hset := set_node HP.out (⟨y0, pa, y2, y3, y4, y5⟩ : Nd)
    dsimp only at hset
    have ho5 := ((((((ho4.stored (q * 6) (.int .i64 y0)).1.stored (q * 6 + 1) (.int .i64 pa)).1.stored (q * 6 + 2) (.string y2)).1.stored (q * 6 + 3) (.int .u64 y3)).1.stored (q * 6 + 4) (.bool y4)).1.stored (q * 6 + 5) (.bool y5)).1
    rw [hset] at ho5
    have k05 := (((((k04.far (p := ⟨g, q * 6, none⟩) hne0 (.int .i64 y0)).far (p := ⟨g, q * 6 + 1, none⟩) hne0 (.int .i64 pa)).far (p := ⟨g, q * 6 + 2, none⟩) hne0 (.string y2)).far (p := ⟨g, q * 6 + 3, none⟩) hne0 (.int .u64 y3)).far (p := ⟨g, q * 6 + 4, none⟩) hne0 (.bool y4)).far (p := ⟨g, q * 6 + 5, none⟩) hne0 (.bool y5)
    have k15 := (((((k14.far (p := ⟨g, q * 6, none⟩) hne1 (.int .i64 y0)).far (p := ⟨g, q * 6 + 1, none⟩) hne1 (.int .i64 pa)).far (p := ⟨g, q * 6 + 2, none⟩) hne1 (.string y2)).far (p := ⟨g, q * 6 + 3, none⟩) hne1 (.int .u64 y3)).far (p := ⟨g, q * 6 + 4, none⟩) hne1 (.bool y4)).far (p := ⟨g, q * 6 + 5, none⟩) hne1 (.bool y5)
    have hgw2 : w.heap.size ≤ g := by omega
    have hb5 := (((((hb4.setCell (p := ⟨g, q * 6, none⟩) hgw2 (.int .i64 y0)).setCell (p := ⟨g, q * 6 + 1, none⟩) hgw2 (.int .i64 pa)).setCell (p := ⟨g, q * 6 + 2, none⟩) hgw2 (.string y2)).setCell (p := ⟨g, q * 6 + 3, none⟩) hgw2 (.int .u64 y3)).setCell (p := ⟨g, q * 6 + 4, none⟩) hgw2 (.bool y4)).setCell (p := ⟨g, q * 6 + 5, none⟩) hgw2 (.bool y5)
    clear k04 k14 ho4 hb4 HB4 HK03 HK13 HO3 HB3 HMV s0 s1 s2 s3 s4 s5 u0 hset
    generalize (((((w4.setCell ⟨g, q * 6, none⟩ (.int .i64 y0)).setCell ⟨g, q * 6 + 1, none⟩ (.int .i64 pa)).setCell ⟨g, q * 6 + 2, none⟩ (.string y2)).setCell ⟨g, q * 6 + 3, none⟩ (.int .u64 y3)).setCell ⟨g, q * 6 + 4, none⟩ (.bool y4)).setCell ⟨g, q * 6 + 5, none⟩ (.bool y5) = w5 at ho5 k05 k15 hb5 ⊢
    have a0 : w5.cell? ⟨w.heap.size, 0, none⟩ = some (.slice (some ⟨g, 0, none⟩) (n1 + 1) cg) := (k05.cell 0).trans rfl
    have a1 : w5.cell? ⟨w.heap.size, 1, none⟩ = some (.int .i64 lv) := (k05.cell 1).trans rfl
    have a2 : w5.cell? ⟨w.heap.size, 2, none⟩ = some (.int .i64 nx) := (k05.cell 2).trans rfl
    have a3 : w5.cell? ⟨w.heap.size, 3, none⟩ = some (.int .u64 nw) := (k05.cell 3).trans rfl
    have b0 : w5.cell? ⟨w.heap.size + 1, 0, none⟩ = some (.slice none 0 0) := (k15.cell 0).trans rfl
    have b1 : w5.cell? ⟨w.heap.size + 1, 1, none⟩ = some (.int .i64 0) := (k15.cell 1).trans rfl
    have b2 : w5.cell? ⟨w.heap.size + 1, 2, none⟩ = some (.int .i64 0) := (k15.cell 2).trans rfl
    have b3 : w5.cell? ⟨w.heap.size + 1, 3, none⟩ = some (.int .u64 0) := (k15.cell 3).trans rfl
    have f0 := k15.frozen 0
    have f1 := k15.frozen 1
    have f2 := k15.frozen 2
    have f3 := k15.frozen 3
    have HK15 := Lib.hid k15
    have HO5 := Lib.hid ho5
    have HB5 := Lib.hid hb5
    clear k05 k15 ho5 hb5
    go_wp2_with fail
    have h3 := (((HK15.out.set_ 0 (.slice (some ⟨g, 0, none⟩) (n1 + 1) cg)).set_ 1 (.int .i64 lv)).set_ 2 (.int .i64 nx)).set_ 3 (.int .u64 nw)
    refine bodyPost_ret (results_row_tmp rfl _ _ (w.heap.size + 1) _ _ _ _ rfl h3 Tryd.underlying28 rfl (by rw [tr_info]; rfl)) rfl ?_
    refine ⟨g, cg, rfl, own_le HO5.out, ?_, ?_⟩
    · have hne : ∀ (p : Addr), p.block = w.heap.size + 1 → some p.block ≠ (Value.slice (some ⟨g, 0, none⟩) (n1 + 1) cg).ownBlock := by
        intro p hp
        simp [Value.ownBlock]
        omega
      have o1 := own_setCell (own_setCell (own_setCell (own_setCell HO5.out (p := ⟨w.heap.size + 1, 0, none⟩) (hne _ rfl) (.slice (some ⟨g, 0, none⟩) (n1 + 1) cg)) (p := ⟨w.heap.size + 1, 1, none⟩) (hne _ rfl) (.int .i64 lv)) (p := ⟨w.heap.size + 1, 2, none⟩) (hne _ rfl) (.int .i64 nx)) (p := ⟨w.heap.size + 1, 3, none⟩) (hne _ rfl) (.int .u64 nw)
      rw [show l.set q ⟨y0, pa, y2, y3, y4, y5⟩ = NL from HNL2.out] at o1
      exact nodes_of_own (n := n1 + 1) (cap := cg) (by rw [← HNL2.out, List.length_set, HN.out]; rw [HNL2.out]; exact o1)
    · repeat (refine below_set ?_ (by omega))
      exact HB5.out
end Go.Proofs.YtfdhehjfbcddgaaDoor.Pr
end
section
namespace Go.Proofs.YtfdhehjfbcddgaaDoor.Pr
open Go.RowKit Go.Proofs.YtfdhehjfbcddgaaDoorW.PrintWords Go.Proofs.YtfdhehjfbcddgaaDoorW.PrintLast Go.Proofs.YtfdhehjfbcddgaaDoor
set_option linter.unusedVariables false
def setPin (b : Int) (x : Nd) : Nd := { x with pin := (b == 1) }
def setGhost (x : Nd) : Nd := ⟨x.id, x.par, ⟨#[]⟩, 0, true, false⟩
set_option maxRecDepth 100000 in
theorem change3_any (x : Nd) (a : Int) (c : Nat) (w : World) (hc : w.cell? ⟨c, 2, none⟩ = some (.int .i64 a)) :
    Calls Tryd.prog 72 #[valN x, .pointer (some ⟨c, 0, none⟩)] w fun e w' => e = .returned (valN (setPin a x)) ∧ Below w.heap.size w w' := by
  have hlt := block_lt_of_cell hc
  obtain ⟨y0, y1, y2, y3, y4, y5⟩ := x
  unfold valN setPin
  go_enter Tryd.func72, Tryd.ntmps72
  go_wp2
  have h3 : Blk ((w.alloc (.cells #[.int .i64 y0, .int .i64 y1, .string y2, .int .u64 y3, .bool y4, .bool (a == 1)] 42)).alloc (.cells #[.int .i64 y0, .int .i64 y1, .string y2, .int .u64 y3, .bool y4, .bool (a == 1)] 42)) (w.heap.size + 1) 42 #[.int .i64 y0, .int .i64 y1, .string y2, .int .u64 y3, .bool y4, .bool (a == 1)] := by
    have h := Blk.new (w.alloc (.cells #[.int .i64 y0, .int .i64 y1, .string y2, .int .u64 y3, .bool y4, .bool (a == 1)] 42)) 42 #[.int .i64 y0, .int .i64 y1, .string y2, .int .u64 y3, .bool y4, .bool (a == 1)]
    rw [show (w.alloc (.cells #[.int .i64 y0, .int .i64 y1, .string y2, .int .u64 y3, .bool y4, .bool (a == 1)] 42)).heap.size = w.heap.size + 1 by simp] at h
    exact h
  refine bodyPost_ret (results_cell_row rfl _ _ (w.heap.size + 1) _ _ _ _ rfl h3 Tryd.underlying42 rfl (by rw [nd_info]; rfl)) rfl ?_
  exact ⟨rfl, ((Below.refl _ _).alloc (Nat.le_refl _) _).alloc (by simp) _⟩
set_option maxRecDepth 100000 in
set_option maxHeartbeats 4000000 in
theorem with_pin_any (A : Option Addr) (cap : Nat) (l : List Nd) (lv nx nw : Int) (a pa : Int) (c : Nat) (w : World) (hl : l.length ≤ 1000000) (hr : NodesAt w A l) (hc : w.cell? ⟨c, 2, none⟩ = some (.int .i64 pa)) (hp : plc l a < l.length) :
    Calls Tryd.prog 67 #[.agg #[.slice A l.length cap, .int .i64 lv, .int .i64 nx, .int .u64 nw], .int .i64 a, .func (.func 72) #[] #[.pointer (some ⟨c, 0, none⟩)]] w fun e w' => ∃ (g cp : Nat), e = .returned (.tuple #[.agg #[.slice (some ⟨g, 0, none⟩) l.length cp, .int .i64 lv, .int .i64 nx, .int .u64 nw], .int .i64 0]) ∧ l.length ≤ cp ∧ NodesAt w' (some ⟨g, 0, none⟩) (l.set (plc l a) (setPin pa (l.getD (plc l a) zN))) ∧ Below w.heap.size w w' := by
  have hlt := block_lt_of_cell hc
  have hbel : Below w.heap.size w ((w.alloc (.cells #[.slice A l.length cap, .int .i64 lv, .int .i64 nx, .int .u64 nw] 28)).alloc (.cells #[.slice none 0 0, .int .i64 0, .int .i64 0, .int .u64 0] 28)) := ((Below.refl _ _).alloc (Nat.le_refl _) _).alloc (by simp) _
  have hk0 : Blk ((w.alloc (.cells #[.slice A l.length cap, .int .i64 lv, .int .i64 nx, .int .u64 nw] 28)).alloc (.cells #[.slice none 0 0, .int .i64 0, .int .i64 0, .int .u64 0] 28)) w.heap.size 28 #[.slice A l.length cap, .int .i64 lv, .int .i64 nx, .int .u64 nw] := (Blk.new w 28 #[.slice A l.length cap, .int .i64 lv, .int .i64 nx, .int .u64 nw]).alloc _
  have hk1 : Blk ((w.alloc (.cells #[.slice A l.length cap, .int .i64 lv, .int .i64 nx, .int .u64 nw] 28)).alloc (.cells #[.slice none 0 0, .int .i64 0, .int .i64 0, .int .u64 0] 28)) (w.heap.size + 1) 28 #[.slice none 0 0, .int .i64 0, .int .i64 0, .int .u64 0] := by
    have h := Blk.new (w.alloc (.cells #[.slice A l.length cap, .int .i64 lv, .int .i64 nx, .int .u64 nw] 28)) 28 #[.slice none 0 0, .int .i64 0, .int .i64 0, .int .u64 0]
    rw [show (w.alloc (.cells #[.slice A l.length cap, .int .i64 lv, .int .i64 nx, .int .u64 nw] 28)).heap.size = w.heap.size + 1 by simp] at h
    exact h
  have hplace := fun (w1 : World) (h1 : NodesAt w1 A l) => place_any A cap l lv nx nw a w1 hl h1
  have hclone := fun (w1 : World) (h1 : NodesAt w1 A l) => tclone_any A cap l w1 h1 hl
  have hr0 := hr.below hbel
  have hc0 := (hbel.cell (p := ⟨c, 2, none⟩) hlt).trans hc
  obtain ⟨q, hq⟩ : ∃ q, plc l a = q := ⟨_, rfl⟩
  rw [hq]
  rw [hq] at hplace hp
  obtain ⟨NL, hNL⟩ : ∃ NL, l.set q (setPin pa (l.getD q zN)) = NL := ⟨_, rfl⟩
  rw [hNL]
  have HNL := Lib.hid hNL
  obtain ⟨n, hn⟩ : ∃ n, l.length = n := ⟨_, rfl⟩
  rw [hn] at hbel hk0 hk1 hplace hclone hr0 hc0
  rw [hn]
  have HPL := Lib.hid hplace
  have HCL := Lib.hid hclone
  have HN := Lib.hid hn
  have HP := Lib.hid hp
  have hqn : q < n := by rw [← hn]; exact hp
  clear hplace hclone hr hc hq hNL
  go_enter Tryd.func67, Tryd.ntmps67
  go_upto_region 1 with fail
  generalize ((w.alloc (.cells #[.slice A n cap, .int .i64 lv, .int .i64 nx, .int .u64 nw] 28)).alloc (.cells #[.slice none 0 0, .int .i64 0, .int .i64 0, .int .u64 0] 28)) = w0 at hbel hk0 hk1 hr0 hc0 ⊢
  have t0 : w0.cell? ⟨w.heap.size, 0, none⟩ = some (.slice A n cap) := (hk0.cell 0).trans rfl
  have t1 : w0.cell? ⟨w.heap.size, 1, none⟩ = some (.int .i64 lv) := (hk0.cell 1).trans rfl
  have t2 : w0.cell? ⟨w.heap.size, 2, none⟩ = some (.int .i64 nx) := (hk0.cell 2).trans rfl
  have t3 : w0.cell? ⟨w.heap.size, 3, none⟩ = some (.int .u64 nw) := (hk0.cell 3).trans rfl
  have HB := Lib.hid hbel
  have HK0 := Lib.hid hk0
  have HK1 := Lib.hid hk1
  have HR := Lib.hid hr0
  have HC := Lib.hid hc0
  clear hbel hk0 hk1 hr0 hc0 hn hp
  go_wp2_with fail
  refine (HPL.out _ HR.out).mono ?_
  rintro e w1 ⟨rfl, hb1⟩
  have k01 := HK0.out.below hb1 HK0.out.lt
  have k11 := HK1.out.below hb1 HK1.out.lt
  have r1 := HR.out.below hb1
  have c1 := (hb1.cell (p := ⟨c, 2, none⟩) (block_lt_of_cell HC.out)).trans HC.out
  have t0 : w1.cell? ⟨w.heap.size, 0, none⟩ = some (.slice A n cap) := (k01.cell 0).trans rfl
  have HB1 := Lib.hid (HB.out.trans (hb1.mono HB.out.size))
  have HK01 := Lib.hid k01
  have HK11 := Lib.hid k11
  have HC1 := Lib.hid c1
  have HR1 := Lib.hid r1
  clear hb1 k01 k11 r1 c1 t1 t2 t3 HB HK0 HK1 HR HC HPL
  go_wp2_with fail
  refine (HCL.out _ HR1.out).mono ?_
  rintro e w2 ⟨⟨v, rfl, ho2⟩, hb2⟩
  have hp0 : 0 < n := by omega
  obtain ⟨n1, rfl⟩ : ∃ n1, n = n1 + 1 := ⟨n - 1, by omega⟩
  obtain ⟨g, cg, rfl, hg⟩ : ∃ g cg, v = .slice (some ⟨g, 0, none⟩) (n1 + 1) cg ∧ w1.heap.size ≤ g := by
    rcases ho2.2 with ⟨_, h0⟩ | ⟨g, cap', _, rfl, hb, _⟩
    · omega
    · exact ⟨g, cap', rfl, hb⟩
  have k02 := HK01.out.below hb2 HK01.out.lt
  have k12 := HK11.out.below hb2 HK11.out.lt
  have c2 := (hb2.cell (p := ⟨c, 2, none⟩) (block_lt_of_cell HC1.out)).trans HC1.out
  have HB2 := Lib.hid (HB1.out.trans (hb2.mono HB1.out.size))
  have u0 : w2.cell? ⟨w.heap.size, 0, none⟩ = some (.slice A (n1 + 1) cap) := (k02.cell 0).trans rfl
  have v0 := k02.frozen 0
  have HO2 := Lib.hid ho2
  have HK02 := Lib.hid k02
  have HK12 := Lib.hid k12
  have HC2 := Lib.hid c2
  have hgw : w.heap.size + 1 < w1.heap.size := HK11.out.lt
  clear hb2 ho2 k02 k12 c2 HB1 HK01 HK11 HC1 HR1 HCL t0
  go_upto_region 3 with fail
  have k03 := HK02.out.set_ 0 (.slice (some ⟨g, 0, none⟩) (n1 + 1) cg)
  have k13 := HK12.out.far (p := ⟨w.heap.size, 0, none⟩) (by simp) (.slice (some ⟨g, 0, none⟩) (n1 + 1) cg)
  have ho3 := own_setCell HO2.out (p := ⟨w.heap.size, 0, none⟩) (by simp [Value.ownBlock]; omega) (.slice (some ⟨g, 0, none⟩) (n1 + 1) cg)
  have hb3 := HB2.out.setCell (p := ⟨w.heap.size, 0, none⟩) (Nat.le_refl _) (.slice (some ⟨g, 0, none⟩) (n1 + 1) cg)
  have hc3 : (w2.setCell ⟨w.heap.size, 0, none⟩ (.slice (some ⟨g, 0, none⟩) (n1 + 1) cg)).cell? ⟨c, 2, none⟩ = some (.int .i64 pa) := by
    have hh := Below.heap_setCell w2 ⟨w.heap.size, 0, none⟩ (.slice (some ⟨g, 0, none⟩) (n1 + 1) cg) c (by simp; omega)
    have := HC2.out
    simp only [World.cell?, hh] at this ⊢
    exact this
  clear HK02 HK12 HO2 HB2 HC2 u0 v0 t0
  generalize (w2.setCell ⟨w.heap.size, 0, none⟩ (.slice (some ⟨g, 0, none⟩) (n1 + 1) cg)) = w3 at k03 k13 ho3 hb3 hc3 ⊢
  have u0 : w3.cell? ⟨w.heap.size, 0, none⟩ = some (.slice (some ⟨g, 0, none⟩) (n1 + 1) cg) := (k03.cell 0).trans rfl
  obtain ⟨x, hx⟩ : ∃ x, l.getD q zN = x := ⟨_, rfl⟩
  have gt := fun (j : Nat) (hj : j < 6) => (ho3.cellAt (q * 6 + j) (by omega)).trans (flatE_get encN_len l q HP.out j hj)
  have hxl : l[q]'HP.out = x := by rw [← hx, List.getD_eq_getElem?_getD, List.getElem?_eq_getElem HP.out]; rfl
  rw [hxl] at gt
  have hnl := HNL.out
  rw [hx] at hnl
  have HNL2 := Lib.hid hnl
  obtain ⟨y0, y1, y2, y3, y4, y5⟩ := x
  have s0 : w3.cell? ⟨g, q * 6, none⟩ = some (.int .i64 y0) := (gt 0 (by decide)).trans rfl
  have s1 : w3.cell? ⟨g, q * 6 + 1, none⟩ = some (.int .i64 y1) := (gt 1 (by decide)).trans rfl
  have s2 : w3.cell? ⟨g, q * 6 + 2, none⟩ = some (.string y2) := (gt 2 (by decide)).trans rfl
  have s3 : w3.cell? ⟨g, q * 6 + 3, none⟩ = some (.int .u64 y3) := (gt 3 (by decide)).trans rfl
  have s4 : w3.cell? ⟨g, q * 6 + 4, none⟩ = some (.bool y4) := (gt 4 (by decide)).trans rfl
  have s5 : w3.cell? ⟨g, q * 6 + 5, none⟩ = some (.bool y5) := (gt 5 (by decide)).trans rfl
  have hglt : g < w3.heap.size := (ho3.lt g rfl).2
  have hclt : c < w3.heap.size := block_lt_of_cell hc3
  have HK03 := Lib.hid k03
  have HK13 := Lib.hid k13
  have HO3 := Lib.hid ho3
  have HB3 := Lib.hid hb3
  have HMV := Lib.hid (fun (wx : World) (hb : Below w3.heap.size w3 wx) => change3_any ⟨y0, y1, y2, y3, y4, y5⟩ pa c wx ((hb.cell (p := ⟨c, 2, none⟩) hclt).trans hc3))
  unfold valN setPin at HMV
  dsimp only at HMV
  clear k03 k13 ho3 hb3 hc3 gt hxl hx hnl HNL
  go_cut [] from 8 (fun wx => ∃ w4, Hid (Below w3.heap.size w3 w4) ∧ wx = (((((w4.setCell ⟨g, q * 6, none⟩ (.int .i64 y0)).setCell ⟨g, q * 6 + 1, none⟩ (.int .i64 y1)).setCell ⟨g, q * 6 + 2, none⟩ (.string y2)).setCell ⟨g, q * 6 + 3, none⟩ (.int .u64 y3)).setCell ⟨g, q * 6 + 4, none⟩ (.bool y4)).setCell ⟨g, q * 6 + 5, none⟩ (.bool (pa == 1)))
  case first =>
    go_region_with ((go_at_call 72
                     refine (HMV.out _ (by repeat (first | (with_reducible exact Below.refl _ _) | apply below_drew1))).mono ?_
                     rintro e w4 ⟨rfl, hb4⟩
                     have HB4 := Lib.hid (show Below w3.heap.size w3 w4 from (below_drew1 (Below.refl w3.heap.size w3)).trans hb4)
                     have e0 := (HB4.out.cell (p := ⟨g, q * 6, none⟩) hglt).trans s0
                     have e1 := (HB4.out.cell (p := ⟨g, q * 6 + 1, none⟩) hglt).trans s1
                     have e2 := (HB4.out.cell (p := ⟨g, q * 6 + 2, none⟩) hglt).trans s2
                     have e3 := (HB4.out.cell (p := ⟨g, q * 6 + 3, none⟩) hglt).trans s3
                     have e4 := (HB4.out.cell (p := ⟨g, q * 6 + 4, none⟩) hglt).trans s4
                     have e5 := (HB4.out.cell (p := ⟨g, q * 6 + 5, none⟩) hglt).trans s5
                     have ho4 := pw_own_below HO3.out HB4.out
                     have f0 := ho4.frozenAt (q * 6)
                     have f1 := ho4.frozenAt (q * 6 + 1)
                     have f2 := ho4.frozenAt (q * 6 + 2)
                     have f3 := ho4.frozenAt (q * 6 + 3)
                     have f4 := ho4.frozenAt (q * 6 + 4)
                     have f5 := ho4.frozenAt (q * 6 + 5)
                     have k4 := (HK03.out.below HB4.out HK03.out.lt)
                     have u4 : w4.cell? ⟨w.heap.size, 0, none⟩ = some (.slice (some ⟨g, 0, none⟩) (n1 + 1) cg) := (k4.cell 0).trans rfl
                     clear ho4 k4 hb4))
    all_goals (go_wp2_with fail; go_meet)
    all_goals exact ⟨_, HB4, rfl⟩
  case rest =>
    obtain ⟨w4, HB4, rfl⟩ := hcut
    have hne0 : w.heap.size ≠ g := by omega
    have hne1 : w.heap.size + 1 ≠ g := by omega
    have k04 := HK03.out.below HB4.out HK03.out.lt
    have k14 := HK13.out.below HB4.out HK13.out.lt
    have ho4 := pw_own_below HO3.out HB4.out
    have hb4 := HB3.out.trans (HB4.out.mono HB3.out.size)
    have hset := set_node HP.out (⟨y0, y1, y2, y3, y4, (pa == 1)⟩ : Nd)
    dsimp only at hset
    have ho5 := ((((((ho4.stored (q * 6) (.int .i64 y0)).1.stored (q * 6 + 1) (.int .i64 y1)).1.stored (q * 6 + 2) (.string y2)).1.stored (q * 6 + 3) (.int .u64 y3)).1.stored (q * 6 + 4) (.bool y4)).1.stored (q * 6 + 5) (.bool (pa == 1))).1
    rw [hset] at ho5
    have k05 := (((((k04.far (p := ⟨g, q * 6, none⟩) hne0 (.int .i64 y0)).far (p := ⟨g, q * 6 + 1, none⟩) hne0 (.int .i64 y1)).far (p := ⟨g, q * 6 + 2, none⟩) hne0 (.string y2)).far (p := ⟨g, q * 6 + 3, none⟩) hne0 (.int .u64 y3)).far (p := ⟨g, q * 6 + 4, none⟩) hne0 (.bool y4)).far (p := ⟨g, q * 6 + 5, none⟩) hne0 (.bool (pa == 1))
    have k15 := (((((k14.far (p := ⟨g, q * 6, none⟩) hne1 (.int .i64 y0)).far (p := ⟨g, q * 6 + 1, none⟩) hne1 (.int .i64 y1)).far (p := ⟨g, q * 6 + 2, none⟩) hne1 (.string y2)).far (p := ⟨g, q * 6 + 3, none⟩) hne1 (.int .u64 y3)).far (p := ⟨g, q * 6 + 4, none⟩) hne1 (.bool y4)).far (p := ⟨g, q * 6 + 5, none⟩) hne1 (.bool (pa == 1))
    have hgw2 : w.heap.size ≤ g := by omega
    have hb5 := (((((hb4.setCell (p := ⟨g, q * 6, none⟩) hgw2 (.int .i64 y0)).setCell (p := ⟨g, q * 6 + 1, none⟩) hgw2 (.int .i64 y1)).setCell (p := ⟨g, q * 6 + 2, none⟩) hgw2 (.string y2)).setCell (p := ⟨g, q * 6 + 3, none⟩) hgw2 (.int .u64 y3)).setCell (p := ⟨g, q * 6 + 4, none⟩) hgw2 (.bool y4)).setCell (p := ⟨g, q * 6 + 5, none⟩) hgw2 (.bool (pa == 1))
    clear k04 k14 ho4 hb4 HB4 HK03 HK13 HO3 HB3 HMV s0 s1 s2 s3 s4 s5 u0 hset
    generalize (((((w4.setCell ⟨g, q * 6, none⟩ (.int .i64 y0)).setCell ⟨g, q * 6 + 1, none⟩ (.int .i64 y1)).setCell ⟨g, q * 6 + 2, none⟩ (.string y2)).setCell ⟨g, q * 6 + 3, none⟩ (.int .u64 y3)).setCell ⟨g, q * 6 + 4, none⟩ (.bool y4)).setCell ⟨g, q * 6 + 5, none⟩ (.bool (pa == 1)) = w5 at ho5 k05 k15 hb5 ⊢
    have a0 : w5.cell? ⟨w.heap.size, 0, none⟩ = some (.slice (some ⟨g, 0, none⟩) (n1 + 1) cg) := (k05.cell 0).trans rfl
    have a1 : w5.cell? ⟨w.heap.size, 1, none⟩ = some (.int .i64 lv) := (k05.cell 1).trans rfl
    have a2 : w5.cell? ⟨w.heap.size, 2, none⟩ = some (.int .i64 nx) := (k05.cell 2).trans rfl
    have a3 : w5.cell? ⟨w.heap.size, 3, none⟩ = some (.int .u64 nw) := (k05.cell 3).trans rfl
    have b0 : w5.cell? ⟨w.heap.size + 1, 0, none⟩ = some (.slice none 0 0) := (k15.cell 0).trans rfl
    have b1 : w5.cell? ⟨w.heap.size + 1, 1, none⟩ = some (.int .i64 0) := (k15.cell 1).trans rfl
    have b2 : w5.cell? ⟨w.heap.size + 1, 2, none⟩ = some (.int .i64 0) := (k15.cell 2).trans rfl
    have b3 : w5.cell? ⟨w.heap.size + 1, 3, none⟩ = some (.int .u64 0) := (k15.cell 3).trans rfl
    have f0 := k15.frozen 0
    have f1 := k15.frozen 1
    have f2 := k15.frozen 2
    have f3 := k15.frozen 3
    have HK15 := Lib.hid k15
    have HO5 := Lib.hid ho5
    have HB5 := Lib.hid hb5
    clear k05 k15 ho5 hb5
    go_wp2_with fail
    have h3 := (((HK15.out.set_ 0 (.slice (some ⟨g, 0, none⟩) (n1 + 1) cg)).set_ 1 (.int .i64 lv)).set_ 2 (.int .i64 nx)).set_ 3 (.int .u64 nw)
    refine bodyPost_ret (results_row_tmp rfl _ _ (w.heap.size + 1) _ _ _ _ rfl h3 Tryd.underlying28 rfl (by rw [tr_info]; rfl)) rfl ?_
    refine ⟨g, cg, rfl, own_le HO5.out, ?_, ?_⟩
    · have hne : ∀ (p : Addr), p.block = w.heap.size + 1 → some p.block ≠ (Value.slice (some ⟨g, 0, none⟩) (n1 + 1) cg).ownBlock := by
        intro p hp
        simp [Value.ownBlock]
        omega
      have o1 := own_setCell (own_setCell (own_setCell (own_setCell HO5.out (p := ⟨w.heap.size + 1, 0, none⟩) (hne _ rfl) (.slice (some ⟨g, 0, none⟩) (n1 + 1) cg)) (p := ⟨w.heap.size + 1, 1, none⟩) (hne _ rfl) (.int .i64 lv)) (p := ⟨w.heap.size + 1, 2, none⟩) (hne _ rfl) (.int .i64 nx)) (p := ⟨w.heap.size + 1, 3, none⟩) (hne _ rfl) (.int .u64 nw)
      rw [show l.set q ⟨y0, y1, y2, y3, y4, (pa == 1)⟩ = NL from HNL2.out] at o1
      exact nodes_of_own (n := n1 + 1) (cap := cg) (by rw [← HNL2.out, List.length_set, HN.out]; rw [HNL2.out]; exact o1)
    · repeat (refine below_set ?_ (by omega))
      exact HB5.out
set_option maxRecDepth 100000 in
theorem change2_any (x : Nd) (w : World) :
    Calls Tryd.prog 71 #[valN x] w fun e w' => e = .returned (valN (setGhost x)) ∧ Below w.heap.size w w' := by
  obtain ⟨y0, y1, y2, y3, y4, y5⟩ := x
  unfold valN setGhost
  go_enter Tryd.func71, Tryd.ntmps71
  go_wp2
  have h3 : Blk ((w.alloc (.cells #[.int .i64 y0, .int .i64 y1, .string y2, .int .u64 y3, .bool y4, .bool y5] 42)).alloc (.cells #[.int .i64 y0, .int .i64 y1, .string ⟨#[]⟩, .int .u64 0, .bool true, .bool false] 42)) (w.heap.size + 1) 42 #[.int .i64 y0, .int .i64 y1, .string ⟨#[]⟩, .int .u64 0, .bool true, .bool false] := by
    have h := Blk.new (w.alloc (.cells #[.int .i64 y0, .int .i64 y1, .string y2, .int .u64 y3, .bool y4, .bool y5] 42)) 42 #[.int .i64 y0, .int .i64 y1, .string ⟨#[]⟩, .int .u64 0, .bool true, .bool false]
    rw [show (w.alloc (.cells #[.int .i64 y0, .int .i64 y1, .string y2, .int .u64 y3, .bool y4, .bool y5] 42)).heap.size = w.heap.size + 1 by simp] at h
    exact h
  refine bodyPost_ret (results_cell_row rfl _ _ (w.heap.size + 1) _ _ _ _ rfl h3 Tryd.underlying42 rfl (by rw [nd_info]; rfl)) rfl ?_
  exact ⟨rfl, ((Below.refl _ _).alloc (Nat.le_refl _) _).alloc (by simp) _⟩
set_option maxRecDepth 100000 in
set_option maxHeartbeats 4000000 in
theorem with_ghost_any (A : Option Addr) (cap : Nat) (l : List Nd) (lv nx nw : Int) (a : Int) (w : World) (hl : l.length ≤ 1000000) (hr : NodesAt w A l) (hp : plc l a < l.length) :
    Calls Tryd.prog 67 #[.agg #[.slice A l.length cap, .int .i64 lv, .int .i64 nx, .int .u64 nw], .int .i64 a, .func (.func 71) #[] #[]] w fun e w' => ∃ (g cp : Nat), e = .returned (.tuple #[.agg #[.slice (some ⟨g, 0, none⟩) l.length cp, .int .i64 lv, .int .i64 nx, .int .u64 nw], .int .i64 0]) ∧ l.length ≤ cp ∧ NodesAt w' (some ⟨g, 0, none⟩) (l.set (plc l a) (setGhost (l.getD (plc l a) zN))) ∧ Below w.heap.size w w' := by
  have hbel : Below w.heap.size w ((w.alloc (.cells #[.slice A l.length cap, .int .i64 lv, .int .i64 nx, .int .u64 nw] 28)).alloc (.cells #[.slice none 0 0, .int .i64 0, .int .i64 0, .int .u64 0] 28)) := ((Below.refl _ _).alloc (Nat.le_refl _) _).alloc (by simp) _
  have hk0 : Blk ((w.alloc (.cells #[.slice A l.length cap, .int .i64 lv, .int .i64 nx, .int .u64 nw] 28)).alloc (.cells #[.slice none 0 0, .int .i64 0, .int .i64 0, .int .u64 0] 28)) w.heap.size 28 #[.slice A l.length cap, .int .i64 lv, .int .i64 nx, .int .u64 nw] := (Blk.new w 28 #[.slice A l.length cap, .int .i64 lv, .int .i64 nx, .int .u64 nw]).alloc _
  have hk1 : Blk ((w.alloc (.cells #[.slice A l.length cap, .int .i64 lv, .int .i64 nx, .int .u64 nw] 28)).alloc (.cells #[.slice none 0 0, .int .i64 0, .int .i64 0, .int .u64 0] 28)) (w.heap.size + 1) 28 #[.slice none 0 0, .int .i64 0, .int .i64 0, .int .u64 0] := by
    have h := Blk.new (w.alloc (.cells #[.slice A l.length cap, .int .i64 lv, .int .i64 nx, .int .u64 nw] 28)) 28 #[.slice none 0 0, .int .i64 0, .int .i64 0, .int .u64 0]
    rw [show (w.alloc (.cells #[.slice A l.length cap, .int .i64 lv, .int .i64 nx, .int .u64 nw] 28)).heap.size = w.heap.size + 1 by simp] at h
    exact h
  have hplace := fun (w1 : World) (h1 : NodesAt w1 A l) => place_any A cap l lv nx nw a w1 hl h1
  have hclone := fun (w1 : World) (h1 : NodesAt w1 A l) => tclone_any A cap l w1 h1 hl
  have hr0 := hr.below hbel
  obtain ⟨q, hq⟩ : ∃ q, plc l a = q := ⟨_, rfl⟩
  rw [hq]
  rw [hq] at hplace hp
  obtain ⟨NL, hNL⟩ : ∃ NL, l.set q (setGhost (l.getD q zN)) = NL := ⟨_, rfl⟩
  rw [hNL]
  have HNL := Lib.hid hNL
  obtain ⟨n, hn⟩ : ∃ n, l.length = n := ⟨_, rfl⟩
  rw [hn] at hbel hk0 hk1 hplace hclone hr0
  rw [hn]
  have HPL := Lib.hid hplace
  have HCL := Lib.hid hclone
  have HN := Lib.hid hn
  have HP := Lib.hid hp
  have hqn : q < n := by rw [← hn]; exact hp
  clear hplace hclone hr hq hNL
  go_enter Tryd.func67, Tryd.ntmps67
  go_upto_region 1 with fail
  generalize ((w.alloc (.cells #[.slice A n cap, .int .i64 lv, .int .i64 nx, .int .u64 nw] 28)).alloc (.cells #[.slice none 0 0, .int .i64 0, .int .i64 0, .int .u64 0] 28)) = w0 at hbel hk0 hk1 hr0 ⊢
  have t0 : w0.cell? ⟨w.heap.size, 0, none⟩ = some (.slice A n cap) := (hk0.cell 0).trans rfl
  have t1 : w0.cell? ⟨w.heap.size, 1, none⟩ = some (.int .i64 lv) := (hk0.cell 1).trans rfl
  have t2 : w0.cell? ⟨w.heap.size, 2, none⟩ = some (.int .i64 nx) := (hk0.cell 2).trans rfl
  have t3 : w0.cell? ⟨w.heap.size, 3, none⟩ = some (.int .u64 nw) := (hk0.cell 3).trans rfl
  have HB := Lib.hid hbel
  have HK0 := Lib.hid hk0
  have HK1 := Lib.hid hk1
  have HR := Lib.hid hr0
  clear hbel hk0 hk1 hr0 hn hp
  go_wp2_with fail
  refine (HPL.out _ HR.out).mono ?_
  rintro e w1 ⟨rfl, hb1⟩
  have k01 := HK0.out.below hb1 HK0.out.lt
  have k11 := HK1.out.below hb1 HK1.out.lt
  have r1 := HR.out.below hb1
  have t0 : w1.cell? ⟨w.heap.size, 0, none⟩ = some (.slice A n cap) := (k01.cell 0).trans rfl
  have HB1 := Lib.hid (HB.out.trans (hb1.mono HB.out.size))
  have HK01 := Lib.hid k01
  have HK11 := Lib.hid k11
  have HR1 := Lib.hid r1
  clear hb1 k01 k11 r1 t1 t2 t3 HB HK0 HK1 HR HPL
  go_wp2_with fail
  refine (HCL.out _ HR1.out).mono ?_
  rintro e w2 ⟨⟨v, rfl, ho2⟩, hb2⟩
  have hp0 : 0 < n := by omega
  obtain ⟨n1, rfl⟩ : ∃ n1, n = n1 + 1 := ⟨n - 1, by omega⟩
  obtain ⟨g, cg, rfl, hg⟩ : ∃ g cg, v = .slice (some ⟨g, 0, none⟩) (n1 + 1) cg ∧ w1.heap.size ≤ g := by
    rcases ho2.2 with ⟨_, h0⟩ | ⟨g, cap', _, rfl, hb, _⟩
    · omega
    · exact ⟨g, cap', rfl, hb⟩
  have k02 := HK01.out.below hb2 HK01.out.lt
  have k12 := HK11.out.below hb2 HK11.out.lt
  have HB2 := Lib.hid (HB1.out.trans (hb2.mono HB1.out.size))
  have u0 : w2.cell? ⟨w.heap.size, 0, none⟩ = some (.slice A (n1 + 1) cap) := (k02.cell 0).trans rfl
  have v0 := k02.frozen 0
  have HO2 := Lib.hid ho2
  have HK02 := Lib.hid k02
  have HK12 := Lib.hid k12
  have hgw : w.heap.size + 1 < w1.heap.size := HK11.out.lt
  clear hb2 ho2 k02 k12 HB1 HK01 HK11 HR1 HCL t0
  go_upto_region 3 with fail
  have k03 := HK02.out.set_ 0 (.slice (some ⟨g, 0, none⟩) (n1 + 1) cg)
  have k13 := HK12.out.far (p := ⟨w.heap.size, 0, none⟩) (by simp) (.slice (some ⟨g, 0, none⟩) (n1 + 1) cg)
  have ho3 := own_setCell HO2.out (p := ⟨w.heap.size, 0, none⟩) (by simp [Value.ownBlock]; omega) (.slice (some ⟨g, 0, none⟩) (n1 + 1) cg)
  have hb3 := HB2.out.setCell (p := ⟨w.heap.size, 0, none⟩) (Nat.le_refl _) (.slice (some ⟨g, 0, none⟩) (n1 + 1) cg)
  clear HK02 HK12 HO2 HB2 u0 v0 t0
  generalize (w2.setCell ⟨w.heap.size, 0, none⟩ (.slice (some ⟨g, 0, none⟩) (n1 + 1) cg)) = w3 at k03 k13 ho3 hb3 ⊢
  have u0 : w3.cell? ⟨w.heap.size, 0, none⟩ = some (.slice (some ⟨g, 0, none⟩) (n1 + 1) cg) := (k03.cell 0).trans rfl
  obtain ⟨x, hx⟩ : ∃ x, l.getD q zN = x := ⟨_, rfl⟩
  have gt := fun (j : Nat) (hj : j < 6) => (ho3.cellAt (q * 6 + j) (by omega)).trans (flatE_get encN_len l q HP.out j hj)
  have hxl : l[q]'HP.out = x := by rw [← hx, List.getD_eq_getElem?_getD, List.getElem?_eq_getElem HP.out]; rfl
  rw [hxl] at gt
  have hnl := HNL.out
  rw [hx] at hnl
  have HNL2 := Lib.hid hnl
  obtain ⟨y0, y1, y2, y3, y4, y5⟩ := x
  have s0 : w3.cell? ⟨g, q * 6, none⟩ = some (.int .i64 y0) := (gt 0 (by decide)).trans rfl
  have s1 : w3.cell? ⟨g, q * 6 + 1, none⟩ = some (.int .i64 y1) := (gt 1 (by decide)).trans rfl
  have s2 : w3.cell? ⟨g, q * 6 + 2, none⟩ = some (.string y2) := (gt 2 (by decide)).trans rfl
  have s3 : w3.cell? ⟨g, q * 6 + 3, none⟩ = some (.int .u64 y3) := (gt 3 (by decide)).trans rfl
  have s4 : w3.cell? ⟨g, q * 6 + 4, none⟩ = some (.bool y4) := (gt 4 (by decide)).trans rfl
  have s5 : w3.cell? ⟨g, q * 6 + 5, none⟩ = some (.bool y5) := (gt 5 (by decide)).trans rfl
  have hglt : g < w3.heap.size := (ho3.lt g rfl).2
  have HK03 := Lib.hid k03
  have HK13 := Lib.hid k13
  have HO3 := Lib.hid ho3
  have HB3 := Lib.hid hb3
  have HMV := Lib.hid (fun (wx : World) (hb : Below w3.heap.size w3 wx) => change2_any ⟨y0, y1, y2, y3, y4, y5⟩ wx)
  unfold valN setGhost at HMV
  dsimp only at HMV
  clear k03 k13 ho3 hb3 gt hxl hx hnl HNL
  go_cut [] from 8 (fun wx => ∃ w4, Hid (Below w3.heap.size w3 w4) ∧ wx = (((((w4.setCell ⟨g, q * 6, none⟩ (.int .i64 y0)).setCell ⟨g, q * 6 + 1, none⟩ (.int .i64 y1)).setCell ⟨g, q * 6 + 2, none⟩ (.string ⟨#[]⟩)).setCell ⟨g, q * 6 + 3, none⟩ (.int .u64 0)).setCell ⟨g, q * 6 + 4, none⟩ (.bool true)).setCell ⟨g, q * 6 + 5, none⟩ (.bool false))
  case first =>
    go_region_with ((go_at_call 71
                     refine (HMV.out _ (by repeat (first | (with_reducible exact Below.refl _ _) | apply below_drew1))).mono ?_
                     rintro e w4 ⟨rfl, hb4⟩
                     have HB4 := Lib.hid (show Below w3.heap.size w3 w4 from (below_drew1 (Below.refl w3.heap.size w3)).trans hb4)
                     have e0 := (HB4.out.cell (p := ⟨g, q * 6, none⟩) hglt).trans s0
                     have e1 := (HB4.out.cell (p := ⟨g, q * 6 + 1, none⟩) hglt).trans s1
                     have e2 := (HB4.out.cell (p := ⟨g, q * 6 + 2, none⟩) hglt).trans s2
                     have e3 := (HB4.out.cell (p := ⟨g, q * 6 + 3, none⟩) hglt).trans s3
                     have e4 := (HB4.out.cell (p := ⟨g, q * 6 + 4, none⟩) hglt).trans s4
                     have e5 := (HB4.out.cell (p := ⟨g, q * 6 + 5, none⟩) hglt).trans s5
                     have ho4 := pw_own_below HO3.out HB4.out
                     have f0 := ho4.frozenAt (q * 6)
                     have f1 := ho4.frozenAt (q * 6 + 1)
                     have f2 := ho4.frozenAt (q * 6 + 2)
                     have f3 := ho4.frozenAt (q * 6 + 3)
                     have f4 := ho4.frozenAt (q * 6 + 4)
                     have f5 := ho4.frozenAt (q * 6 + 5)
                     have k4 := (HK03.out.below HB4.out HK03.out.lt)
                     have u4 : w4.cell? ⟨w.heap.size, 0, none⟩ = some (.slice (some ⟨g, 0, none⟩) (n1 + 1) cg) := (k4.cell 0).trans rfl
                     clear ho4 k4 hb4))
    all_goals (go_wp2_with fail; go_meet)
    all_goals exact ⟨_, HB4, rfl⟩
  case rest =>
    obtain ⟨w4, HB4, rfl⟩ := hcut
    have hne0 : w.heap.size ≠ g := by omega
    have hne1 : w.heap.size + 1 ≠ g := by omega
    have k04 := HK03.out.below HB4.out HK03.out.lt
    have k14 := HK13.out.below HB4.out HK13.out.lt
    have ho4 := pw_own_below HO3.out HB4.out
    have hb4 := HB3.out.trans (HB4.out.mono HB3.out.size)
    have hset := set_node HP.out (⟨y0, y1, ⟨#[]⟩, 0, true, false⟩ : Nd)
    dsimp only at hset
    have ho5 := ((((((ho4.stored (q * 6) (.int .i64 y0)).1.stored (q * 6 + 1) (.int .i64 y1)).1.stored (q * 6 + 2) (.string ⟨#[]⟩)).1.stored (q * 6 + 3) (.int .u64 0)).1.stored (q * 6 + 4) (.bool true)).1.stored (q * 6 + 5) (.bool false)).1
    rw [hset] at ho5
    have k05 := (((((k04.far (p := ⟨g, q * 6, none⟩) hne0 (.int .i64 y0)).far (p := ⟨g, q * 6 + 1, none⟩) hne0 (.int .i64 y1)).far (p := ⟨g, q * 6 + 2, none⟩) hne0 (.string ⟨#[]⟩)).far (p := ⟨g, q * 6 + 3, none⟩) hne0 (.int .u64 0)).far (p := ⟨g, q * 6 + 4, none⟩) hne0 (.bool true)).far (p := ⟨g, q * 6 + 5, none⟩) hne0 (.bool false)
    have k15 := (((((k14.far (p := ⟨g, q * 6, none⟩) hne1 (.int .i64 y0)).far (p := ⟨g, q * 6 + 1, none⟩) hne1 (.int .i64 y1)).far (p := ⟨g, q * 6 + 2, none⟩) hne1 (.string ⟨#[]⟩)).far (p := ⟨g, q * 6 + 3, none⟩) hne1 (.int .u64 0)).far (p := ⟨g, q * 6 + 4, none⟩) hne1 (.bool true)).far (p := ⟨g, q * 6 + 5, none⟩) hne1 (.bool false)
    have hgw2 : w.heap.size ≤ g := by omega
    have hb5 := (((((hb4.setCell (p := ⟨g, q * 6, none⟩) hgw2 (.int .i64 y0)).setCell (p := ⟨g, q * 6 + 1, none⟩) hgw2 (.int .i64 y1)).setCell (p := ⟨g, q * 6 + 2, none⟩) hgw2 (.string ⟨#[]⟩)).setCell (p := ⟨g, q * 6 + 3, none⟩) hgw2 (.int .u64 0)).setCell (p := ⟨g, q * 6 + 4, none⟩) hgw2 (.bool true)).setCell (p := ⟨g, q * 6 + 5, none⟩) hgw2 (.bool false)
    clear k04 k14 ho4 hb4 HB4 HK03 HK13 HO3 HB3 HMV s0 s1 s2 s3 s4 s5 u0 hset
    generalize (((((w4.setCell ⟨g, q * 6, none⟩ (.int .i64 y0)).setCell ⟨g, q * 6 + 1, none⟩ (.int .i64 y1)).setCell ⟨g, q * 6 + 2, none⟩ (.string ⟨#[]⟩)).setCell ⟨g, q * 6 + 3, none⟩ (.int .u64 0)).setCell ⟨g, q * 6 + 4, none⟩ (.bool true)).setCell ⟨g, q * 6 + 5, none⟩ (.bool false) = w5 at ho5 k05 k15 hb5 ⊢
    have a0 : w5.cell? ⟨w.heap.size, 0, none⟩ = some (.slice (some ⟨g, 0, none⟩) (n1 + 1) cg) := (k05.cell 0).trans rfl
    have a1 : w5.cell? ⟨w.heap.size, 1, none⟩ = some (.int .i64 lv) := (k05.cell 1).trans rfl
    have a2 : w5.cell? ⟨w.heap.size, 2, none⟩ = some (.int .i64 nx) := (k05.cell 2).trans rfl
    have a3 : w5.cell? ⟨w.heap.size, 3, none⟩ = some (.int .u64 nw) := (k05.cell 3).trans rfl
    have b0 : w5.cell? ⟨w.heap.size + 1, 0, none⟩ = some (.slice none 0 0) := (k15.cell 0).trans rfl
    have b1 : w5.cell? ⟨w.heap.size + 1, 1, none⟩ = some (.int .i64 0) := (k15.cell 1).trans rfl
    have b2 : w5.cell? ⟨w.heap.size + 1, 2, none⟩ = some (.int .i64 0) := (k15.cell 2).trans rfl
    have b3 : w5.cell? ⟨w.heap.size + 1, 3, none⟩ = some (.int .u64 0) := (k15.cell 3).trans rfl
    have f0 := k15.frozen 0
    have f1 := k15.frozen 1
    have f2 := k15.frozen 2
    have f3 := k15.frozen 3
    have HK15 := Lib.hid k15
    have HO5 := Lib.hid ho5
    have HB5 := Lib.hid hb5
    clear k05 k15 ho5 hb5
    go_wp2_with fail
    have h3 := (((HK15.out.set_ 0 (.slice (some ⟨g, 0, none⟩) (n1 + 1) cg)).set_ 1 (.int .i64 lv)).set_ 2 (.int .i64 nx)).set_ 3 (.int .u64 nw)
    refine bodyPost_ret (results_row_tmp rfl _ _ (w.heap.size + 1) _ _ _ _ rfl h3 Tryd.underlying28 rfl (by rw [tr_info]; rfl)) rfl ?_
    refine ⟨g, cg, rfl, own_le HO5.out, ?_, ?_⟩
    · have hne : ∀ (p : Addr), p.block = w.heap.size + 1 → some p.block ≠ (Value.slice (some ⟨g, 0, none⟩) (n1 + 1) cg).ownBlock := by
        intro p hp
        simp [Value.ownBlock]
        omega
      have o1 := own_setCell (own_setCell (own_setCell (own_setCell HO5.out (p := ⟨w.heap.size + 1, 0, none⟩) (hne _ rfl) (.slice (some ⟨g, 0, none⟩) (n1 + 1) cg)) (p := ⟨w.heap.size + 1, 1, none⟩) (hne _ rfl) (.int .i64 lv)) (p := ⟨w.heap.size + 1, 2, none⟩) (hne _ rfl) (.int .i64 nx)) (p := ⟨w.heap.size + 1, 3, none⟩) (hne _ rfl) (.int .u64 nw)
      rw [show l.set q ⟨y0, y1, ⟨#[]⟩, 0, true, false⟩ = NL from HNL2.out] at o1
      exact nodes_of_own (n := n1 + 1) (cap := cg) (by rw [← HNL2.out, List.length_set, HN.out]; rw [HNL2.out]; exact o1)
    · repeat (refine below_set ?_ (by omega))
      exact HB5.out
end Go.Proofs.YtfdhehjfbcddgaaDoor.Pr
end
