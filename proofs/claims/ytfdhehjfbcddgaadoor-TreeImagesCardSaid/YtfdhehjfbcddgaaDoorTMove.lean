/- (tree.Tree).move: hangs a node on another one. Conditions: the nodes are not more than a million; the search finds what is there. -/
import Derived.Test.YtfdhehjfbcddgaaDoorTPure
namespace Go.Proofs.YtfdhehjfbcddgaaDoor.Pr
open Go.RowKit Go.Proofs.YtfdhehjfbcddgaaDoorW.PrintWords Go.Proofs.YtfdhehjfbcddgaaDoorW.PrintLast Go.Proofs.YtfdhehjfbcddgaaDoor
set_option linter.unusedVariables false
/-- a tree's value -/
def TrAt (w : World) (v : Value) (t : Tr) : Prop := ∃ A cap, v = .agg #[.slice A t.l.length cap, .int .i64 t.lv, .int .i64 t.nx, .int .u64 t.nw] ∧ t.l.length ≤ cap ∧ NodesAt w A t.l
theorem TrAt.below {w w' : World} {v : Value} {t : Tr} (h : TrAt w v t) (hb : Below w.heap.size w w') : TrAt w' v t := by
  obtain ⟨A, cap, rfl, hc, hn⟩ := h
  exact ⟨A, cap, rfl, hc, hn.below hb⟩
theorem NodesAt.setB {w : World} {A : Option Addr} {l : List Nd} {c : Nat} {ty : TypeId} {cs : Array Value} (h : NodesAt w A l) (hk : Blk w c ty cs) (ht : ty ≠ 42) (j : Nat) (v : Value) : NodesAt (w.setCell ⟨c, j, none⟩ v) A l := by
  refine h.kept (fun b cs' fr ho => Below.heap_setCell w ⟨c, j, none⟩ v b ?_)
  intro e
  have e2 : b = c := e
  rw [e2, show w.heap[c]? = _ from hk] at ho
  simp only [Option.some.injEq, Obj.cells.injEq] at ho
  exact ht ho.2.1
theorem NodesAt.set4 {w : World} {A : Option Addr} {l : List Nd} {c : Nat} {ty : TypeId} {cs : Array Value} (h : NodesAt w A l) (hk : Blk w c ty cs) (ht : ty ≠ 42) (v0 v1 v2 v3 : Value) : NodesAt ((((w.setCell ⟨c, 0, none⟩ v0).setCell ⟨c, 1, none⟩ v1).setCell ⟨c, 2, none⟩ v2).setCell ⟨c, 3, none⟩ v3) A l :=
  (((h.setB hk ht 0 v0).setB (hk.set_ 0 v0) ht 1 v1).setB ((hk.set_ 0 v0).set_ 1 v1) ht 2 v2).setB (((hk.set_ 0 v0).set_ 1 v1).set_ 2 v2) ht 3 v3
theorem TrAt.zero (w : World) : TrAt w (.agg #[.slice none 0 0, .int .i64 0, .int .i64 0, .int .u64 0]) zT := ⟨none, 0, rfl, Nat.le_refl _, NodesAt.nil _ _⟩
theorem tr_goal {w w' : World} {v : Value} {n : Int} {R : Tr × Int} (h1 : n = R.2) (h2 : TrAt w' v R.1) (h3 : Below w.heap.size w w') : ∃ v', Ending.returned (.tuple #[v, .int .i64 n]) = Ending.returned (.tuple #[v', .int .i64 R.2]) ∧ TrAt w' v' R.1 ∧ Below w.heap.size w w' := by
  subst h1
  exact ⟨v, rfl, h2, h3⟩
set_option maxRecDepth 100000 in
set_option maxHeartbeats 4000000 in
theorem tmove_any (A : Option Addr) (cap : Nat) (l : List Nd) (lv nx nw : Int) (a p : Int) (w : World) (hl : l.length ≤ 1000000) (hr : NodesAt w A l) (hp : (findN l a).2 = true → plc l a < l.length) :
    Calls Tryd.prog 42 #[.agg #[.slice A l.length cap, .int .i64 lv, .int .i64 nx, .int .u64 nw], .int .i64 a, .int .i64 p] w fun e w' => ∃ v, e = .returned (.tuple #[v, .int .i64 (moveN ⟨l, lv, nx, nw⟩ a p).2]) ∧ TrAt w' v (moveN ⟨l, lv, nx, nw⟩ a p).1 ∧ Below w.heap.size w w' := by
  have hbel : Below w.heap.size w (((w.alloc (.cells #[.slice A l.length cap, .int .i64 lv, .int .i64 nx, .int .u64 nw] 28)).alloc (.cells #[.int .i64 p] 3)).alloc (.cells #[.slice none 0 0, .int .i64 0, .int .i64 0, .int .u64 0] 28)) := (((Below.refl _ _).alloc (Nat.le_refl _) _).alloc (by simp) _).alloc (by simp; omega) _
  have hk0 : Blk (((w.alloc (.cells #[.slice A l.length cap, .int .i64 lv, .int .i64 nx, .int .u64 nw] 28)).alloc (.cells #[.int .i64 p] 3)).alloc (.cells #[.slice none 0 0, .int .i64 0, .int .i64 0, .int .u64 0] 28)) w.heap.size 28 #[.slice A l.length cap, .int .i64 lv, .int .i64 nx, .int .u64 nw] := ((Blk.new w 28 #[.slice A l.length cap, .int .i64 lv, .int .i64 nx, .int .u64 nw]).alloc _).alloc _
  have hk1 : Blk (((w.alloc (.cells #[.slice A l.length cap, .int .i64 lv, .int .i64 nx, .int .u64 nw] 28)).alloc (.cells #[.int .i64 p] 3)).alloc (.cells #[.slice none 0 0, .int .i64 0, .int .i64 0, .int .u64 0] 28)) (w.heap.size + 1) 3 #[.int .i64 p] := by
    have h := (Blk.new (w.alloc (.cells #[.slice A l.length cap, .int .i64 lv, .int .i64 nx, .int .u64 nw] 28)) 3 #[.int .i64 p]).alloc (.cells #[.slice none 0 0, .int .i64 0, .int .i64 0, .int .u64 0] 28)
    rw [show (w.alloc (.cells #[.slice A l.length cap, .int .i64 lv, .int .i64 nx, .int .u64 nw] 28)).heap.size = w.heap.size + 1 by simp] at h
    exact h
  have hk2 : Blk (((w.alloc (.cells #[.slice A l.length cap, .int .i64 lv, .int .i64 nx, .int .u64 nw] 28)).alloc (.cells #[.int .i64 p] 3)).alloc (.cells #[.slice none 0 0, .int .i64 0, .int .i64 0, .int .u64 0] 28)) (w.heap.size + 1 + 1) 28 #[.slice none 0 0, .int .i64 0, .int .i64 0, .int .u64 0] := by
    have h := Blk.new ((w.alloc (.cells #[.slice A l.length cap, .int .i64 lv, .int .i64 nx, .int .u64 nw] 28)).alloc (.cells #[.int .i64 p] 3)) 28 #[.slice none 0 0, .int .i64 0, .int .i64 0, .int .u64 0]
    rw [show ((w.alloc (.cells #[.slice A l.length cap, .int .i64 lv, .int .i64 nx, .int .u64 nw] 28)).alloc (.cells #[.int .i64 p] 3)).heap.size = w.heap.size + 1 + 1 by simp] at h
    exact h
  have hr0 := hr.below hbel
  have hfind := fun (b : Int) (w1 : World) (hx : NodesAt w1 A l) => find_any A cap l lv nx nw b w1 hl hx
  have hwith := fun (c : Nat) (w1 : World) (hx : NodesAt w1 A l) (hc : w1.cell? ⟨c, 0, none⟩ = some (.int .i64 p)) (h : (findN l a).2 = true) => with_move_any A cap l lv nx nw a p c w1 hl hx hc (hp h)
  have hmv : moveN ⟨l, lv, nx, nw⟩ a p = if (findN l a).2 = false ∨ (findN l p).2 = false then (zT, 4) else if a = 1 then (zT, 13) else if a ≤ p then (zT, 1) else (⟨l.set (plc l a) (setPar p (l.getD (plc l a) zN)), lv, nx, nw⟩, 0) := rfl
  obtain ⟨R, hR⟩ : ∃ R, moveN ⟨l, lv, nx, nw⟩ a p = R := ⟨_, rfl⟩
  obtain ⟨NL, hNL⟩ : ∃ NL, l.set (plc l a) (setPar p (l.getD (plc l a) zN)) = NL := ⟨_, rfl⟩
  rw [hNL] at hmv
  have hnll : NL.length = l.length := by rw [← hNL, List.length_set]
  rw [hNL] at hwith
  rw [hR] at hmv ⊢
  have HW := Lib.hid hwith
  have HF := Lib.hid hfind
  have HMV := Lib.hid hmv
  have HNLL := Lib.hid hnll
  obtain ⟨⟨x, oa⟩, hfa⟩ : ∃ q, findN l a = q := ⟨_, rfl⟩
  obtain ⟨⟨y, ob⟩, hfb⟩ : ∃ q, findN l p = q := ⟨_, rfl⟩
  obtain ⟨n, hn⟩ : ∃ n, l.length = n := ⟨_, rfl⟩
  have HFA := Lib.hid hfa
  have HFB := Lib.hid hfb
  rw [hfa, hfb] at HMV
  rw [hfa] at HW
  rw [hn] at hbel hk0 hk1 hk2 hr0 HF HW HNLL ⊢
  clear hr hp hfind hwith hmv hR hNL hfa hfb hn hnll
  go_enter Tryd.func42, Tryd.ntmps42
  go_upto_region 1 with fail
  generalize (((w.alloc (.cells #[.slice A n cap, .int .i64 lv, .int .i64 nx, .int .u64 nw] 28)).alloc (.cells #[.int .i64 p] 3)).alloc (.cells #[.slice none 0 0, .int .i64 0, .int .i64 0, .int .u64 0] 28)) = w0 at hbel hk0 hk1 hk2 hr0 ⊢
  have t0 : w0.cell? ⟨w.heap.size, 0, none⟩ = some (.slice A n cap) := (hk0.cell 0).trans rfl
  have t1 : w0.cell? ⟨w.heap.size, 1, none⟩ = some (.int .i64 lv) := (hk0.cell 1).trans rfl
  have t2 : w0.cell? ⟨w.heap.size, 2, none⟩ = some (.int .i64 nx) := (hk0.cell 2).trans rfl
  have t3 : w0.cell? ⟨w.heap.size, 3, none⟩ = some (.int .u64 nw) := (hk0.cell 3).trans rfl
  have HB := Lib.hid hbel
  have HK0 := Lib.hid hk0
  have HK1 := Lib.hid hk1
  have HK2 := Lib.hid hk2
  have HR := Lib.hid hr0
  have h2lt := hk2.lt
  clear hbel hk0 hk1 hk2 hr0
  have hf1 := HF.out a w0 HR.out
  rw [HFA.out] at hf1
  obtain ⟨x0, x1, x2, x3, x4, x5⟩ := x
  unfold valN at hf1
  dsimp only at hf1
  have HF1 := Lib.hid hf1
  clear hf1
  go_wp2_with fail
  refine HF1.out.mono ?_
  rintro e w1 ⟨rfl, hb1⟩
  have hbx := hb1.alloc hb1.size (.cells #[.int .i64 x0, .int .i64 x1, .string x2, .int .u64 x3, .bool x4, .bool x5] 42)
  clear t0 t1 t2 t3 HF1 hb1
  go_upto_region 2 with fail
  generalize (w1.alloc (.cells #[.int .i64 x0, .int .i64 x1, .string x2, .int .u64 x3, .bool x4, .bool x5] 42)) = w2 at hbx ⊢
  have k0 := HK0.out.below hbx HK0.out.lt
  have k1 := HK1.out.below hbx HK1.out.lt
  have k2 := HK2.out.below hbx HK2.out.lt
  have t0 : w2.cell? ⟨w.heap.size, 0, none⟩ = some (.slice A n cap) := (k0.cell 0).trans rfl
  have t1 : w2.cell? ⟨w.heap.size, 1, none⟩ = some (.int .i64 lv) := (k0.cell 1).trans rfl
  have t2 : w2.cell? ⟨w.heap.size, 2, none⟩ = some (.int .i64 nx) := (k0.cell 2).trans rfl
  have t3 : w2.cell? ⟨w.heap.size, 3, none⟩ = some (.int .u64 nw) := (k0.cell 3).trans rfl
  have p0 : w2.cell? ⟨w.heap.size + 1, 0, none⟩ = some (.int .i64 p) := (k1.cell 0).trans rfl
  have hr2 := HR.out.below hbx
  have hb2 := HB.out.trans (hbx.mono HB.out.size)
  have hf2 := HF.out p w2 hr2
  rw [HFB.out] at hf2
  obtain ⟨y0, y1, y2, y3, y4, y5⟩ := y
  unfold valN at hf2
  dsimp only at hf2
  have HF2 := Lib.hid hf2
  clear HK0 HK1 HK2 HR HB
  have HK0 := Lib.hid k0
  have HK1 := Lib.hid k1
  have HK2 := Lib.hid k2
  have HR := Lib.hid hr2
  have HB := Lib.hid hb2
  clear k0 k1 k2 hr2 hb2 hf2 hbx
  go_wp2_with fail
  refine HF2.out.mono ?_
  rintro e w3 ⟨rfl, hb3⟩
  have hbx := hb3.alloc hb3.size (.cells #[.int .i64 y0, .int .i64 y1, .string y2, .int .u64 y3, .bool y4, .bool y5] 42)
  clear t0 t1 t2 t3 p0 HF2 hb3
  go_upto_region 3 with fail
  generalize (w3.alloc (.cells #[.int .i64 y0, .int .i64 y1, .string y2, .int .u64 y3, .bool y4, .bool y5] 42)) = w4 at hbx ⊢
  have k0 := HK0.out.below hbx HK0.out.lt
  have k1 := HK1.out.below hbx HK1.out.lt
  have k2 := HK2.out.below hbx HK2.out.lt
  have t0 : w4.cell? ⟨w.heap.size, 0, none⟩ = some (.slice A n cap) := (k0.cell 0).trans rfl
  have t1 : w4.cell? ⟨w.heap.size, 1, none⟩ = some (.int .i64 lv) := (k0.cell 1).trans rfl
  have t2 : w4.cell? ⟨w.heap.size, 2, none⟩ = some (.int .i64 nx) := (k0.cell 2).trans rfl
  have t3 : w4.cell? ⟨w.heap.size, 3, none⟩ = some (.int .u64 nw) := (k0.cell 3).trans rfl
  have p0 : w4.cell? ⟨w.heap.size + 1, 0, none⟩ = some (.int .i64 p) := (k1.cell 0).trans rfl
  have c0 : w4.cell? ⟨w.heap.size + 1 + 1, 0, none⟩ = some (.slice none 0 0) := (k2.cell 0).trans rfl
  have c1 : w4.cell? ⟨w.heap.size + 1 + 1, 1, none⟩ = some (.int .i64 0) := (k2.cell 1).trans rfl
  have c2 : w4.cell? ⟨w.heap.size + 1 + 1, 2, none⟩ = some (.int .i64 0) := (k2.cell 2).trans rfl
  have c3 : w4.cell? ⟨w.heap.size + 1 + 1, 3, none⟩ = some (.int .u64 0) := (k2.cell 3).trans rfl
  have f0 := k2.frozen 0
  have f1 := k2.frozen 1
  have f2 := k2.frozen 2
  have f3 := k2.frozen 3
  have hr4 := HR.out.below hbx
  have hb4 := HB.out.trans (hbx.mono HB.out.size)
  clear HK0 HK1 HK2 HR HB
  have HP0 := Lib.hid p0
  have HK2 := Lib.hid k2
  have HR := Lib.hid hr4
  have HB := Lib.hid hb4
  clear k0 k1 k2 hr4 hb4 hbx HF HFA HFB
  cases oa with
  | false =>
    have hR := HMV.out
    rw [if_pos (.inl rfl)] at hR
    subst hR
    go_wp2_with fail
    have h3 := (((HK2.out.set_ 0 (.slice none 0 0)).set_ 1 (.int .i64 0)).set_ 2 (.int .i64 0)).set_ 3 (.int .u64 0)
    refine bodyPost_ret (results_row_tmp rfl _ _ (w.heap.size + 1 + 1) _ _ _ _ rfl h3 Tryd.underlying28 rfl (by rw [tr_info]; rfl)) rfl ?_
    refine tr_goal (R := (zT, _)) rfl (TrAt.zero _) ?_
    repeat (refine below_set ?_ (by omega))
    exact HB.out
  | true =>
    cases ob with
    | false =>
      have hR := HMV.out
      rw [if_pos (.inr rfl)] at hR
      subst hR
      go_wp2_with fail
      have h3 := (((HK2.out.set_ 0 (.slice none 0 0)).set_ 1 (.int .i64 0)).set_ 2 (.int .i64 0)).set_ 3 (.int .u64 0)
      refine bodyPost_ret (results_row_tmp rfl _ _ (w.heap.size + 1 + 1) _ _ _ _ rfl h3 Tryd.underlying28 rfl (by rw [tr_info]; rfl)) rfl ?_
      refine tr_goal (R := (zT, _)) rfl (TrAt.zero _) ?_
      repeat (refine below_set ?_ (by omega))
      exact HB.out
    | true =>
      have hR := HMV.out
      rw [if_neg (by simp)] at hR
      by_cases h1 : a = 1
      · rw [if_pos h1] at hR
        subst hR
        go_wp2_with fail
        have h3 := (((HK2.out.set_ 0 (.slice none 0 0)).set_ 1 (.int .i64 0)).set_ 2 (.int .i64 0)).set_ 3 (.int .u64 0)
        refine bodyPost_ret (results_row_tmp rfl _ _ (w.heap.size + 1 + 1) _ _ _ _ rfl h3 Tryd.underlying28 rfl (by rw [tr_info]; rfl)) rfl ?_
        refine tr_goal (R := (zT, _)) rfl (TrAt.zero _) ?_
        repeat (refine below_set ?_ (by omega))
        exact HB.out
      · rw [if_neg h1] at hR
        by_cases h2 : a ≤ p
        · rw [if_pos h2] at hR
          subst hR
          go_wp2_with fail
          have h3 := (((HK2.out.set_ 0 (.slice none 0 0)).set_ 1 (.int .i64 0)).set_ 2 (.int .i64 0)).set_ 3 (.int .u64 0)
          refine bodyPost_ret (results_row_tmp rfl _ _ (w.heap.size + 1 + 1) _ _ _ _ rfl h3 Tryd.underlying28 rfl (by rw [tr_info]; rfl)) rfl ?_
          refine tr_goal (R := (zT, _)) rfl (TrAt.zero _) ?_
          repeat (refine below_set ?_ (by omega))
          exact HB.out
        · rw [if_neg h2] at hR
          have HRR := Lib.hid hR
          have HWC := Lib.hid (HW.out (w.heap.size + 1) w4 HR.out HP0.out rfl)
          clear hR HW HMV
          go_wp2_with fail
          refine HWC.out.mono ?_
          rintro e w5 ⟨g, cp, rfl, hcp, hn5, hb5⟩
          have HCP := Lib.hid hcp
          clear hcp
          have k2 := HK2.out.below hb5 HK2.out.lt
          have HB5 := Lib.hid (HB.out.trans (hb5.mono HB.out.size))
          have c0 : w5.cell? ⟨w.heap.size + 1 + 1, 0, none⟩ = some (.slice none 0 0) := (k2.cell 0).trans rfl
          have c1 : w5.cell? ⟨w.heap.size + 1 + 1, 1, none⟩ = some (.int .i64 0) := (k2.cell 1).trans rfl
          have c2 : w5.cell? ⟨w.heap.size + 1 + 1, 2, none⟩ = some (.int .i64 0) := (k2.cell 2).trans rfl
          have c3 : w5.cell? ⟨w.heap.size + 1 + 1, 3, none⟩ = some (.int .u64 0) := (k2.cell 3).trans rfl
          have f0 := k2.frozen 0
          have f1 := k2.frozen 1
          have f2 := k2.frozen 2
          have f3 := k2.frozen 3
          have HK25 := Lib.hid k2
          have HN5 := Lib.hid hn5
          clear k2 hb5 hn5 HB HK2 HR HWC t0 t1 t2 t3 p0 HP0
          go_wp2_with fail
          have h3 := (((HK25.out.set_ 0 (.slice (some ⟨g, 0, none⟩) n cp)).set_ 1 (.int .i64 lv)).set_ 2 (.int .i64 nx)).set_ 3 (.int .u64 nw)
          refine bodyPost_ret (results_row_tmp rfl _ _ (w.heap.size + 1 + 1) _ _ _ _ rfl h3 Tryd.underlying28 rfl (by rw [tr_info]; rfl)) rfl ?_
          refine tr_goal (congrArg Prod.snd HRR.out).symm ?_ ?_
          · rw [HRR.out]
            refine ⟨some ⟨g, 0, none⟩, cp, by rw [HNLL.out]; rfl, by rw [HNLL.out]; exact HCP.out, ?_⟩
            exact HN5.out.set4 HK25.out (by decide) _ _ _ _
          · repeat (refine below_set ?_ (by omega))
            exact HB5.out
end Go.Proofs.YtfdhehjfbcddgaaDoor.Pr
