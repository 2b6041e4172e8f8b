/- tree.Find: the first node of a number. Condition: the nodes are not more than a million. -/
import Derived.Test.YtfdhehjfbcddgaaDoorTBase
namespace Go.Proofs.YtfdhehjfbcddgaaDoor.Pr
open Go.RowKit Go.Proofs.YtfdhehjfbcddgaaDoorW.PrintWords Go.Proofs.YtfdhehjfbcddgaaDoorW.PrintLast Go.Proofs.YtfdhehjfbcddgaaDoor
set_option linter.unusedVariables false
set_option maxRecDepth 100000 in
theorem find1_any (x : Nd) (a : Int) (c : Nat) (w : World) (hc : w.cell? ⟨c, 0, none⟩ = some (.int .i64 a)) :
    Calls Tryd.prog 39 #[valN x, .pointer (some ⟨c, 0, none⟩)] w fun e w' => e = .returned (.bool (x.id == a)) ∧ Below w.heap.size w w' := by
  have hlt := block_lt_of_cell hc
  unfold valN
  go_enter Tryd.func39, Tryd.ntmps39
  go_wp2
  all_goals (go_ret; exact ⟨ret_bool (by first | rfl | simp_all), by first | exact (Below.refl _ _).alloc (Nat.le_refl _) _ | exact Below.refl _ _⟩)
def idxN (l : List Nd) (a : Int) : Int := match l.findIdx? (fun x => x.id == a) with | none => -1 | some i => (i : Int)
set_option maxRecDepth 100000 in
set_option maxHeartbeats 1600000 in
theorem indexN_any (A : Option Addr) (cap : Nat) (l : List Nd) (a : Int) (c : Nat) (w : World) (hl : l.length ≤ 1000000) (hr : NodesAt w A l) (hc : w.cell? ⟨c, 0, none⟩ = some (.int .i64 a)) :
    Calls Tryd.prog 38 #[.slice A l.length cap, .func (.func 39) #[] #[.pointer (some ⟨c, 0, none⟩)]] w fun e w' => e = .returned (.int .i64 (idxN l a)) ∧ Below w.heap.size w w' := by
  obtain ⟨n, hn⟩ : ∃ n, l.length = n := ⟨_, rfl⟩
  have HR := Lib.hid hr
  have HN := Lib.hid hn
  have HC := Lib.hid hc
  have hclt := block_lt_of_cell hc
  rw [hn] at hl
  rw [hn]
  clear hr hn hc
  go_enter Tryd.func38, Tryd.ntmps38
  go_wp2_with fail
  go_loopw [8] (fun vj wr => ∃ (j : Nat), j ≤ n ∧ vj = .int .i64 j ∧ Hid (∀ i (h : i < l.length), i < j → (l[i].id == a) = false) ∧ Hid (Below w.heap.size w wr)) (fun vj _ => n - (intOf vj).toNat)
  case atStart => exact ⟨0, by omega, rfl, Lib.hid (fun i _ h => by omega), Lib.hid (Below.refl _ _)⟩
  case round =>
    obtain ⟨j, hjn, rfl, hp, hb⟩ := hrel
    by_cases hlt : j < n
    · obtain ⟨b, off, rfl, ⟨cs, fr, ho⟩, hcell⟩ := HR.out (by rw [HN.out]; omega)
      have hblt := obj_lt ho
      have hjl : j < l.length := by rw [HN.out]; exact hlt
      obtain ⟨hc0, hc1, hc2, hc3, hc4, hc5⟩ := nodes_get hcell j hjl
      obtain ⟨x, hx⟩ : ∃ x, l[j]'hjl = x := ⟨_, rfl⟩
      rw [hx] at hc0 hc1 hc2 hc3 hc4 hc5
      have hcl := find1_any x a c wr ((hb.out.cell (p := ⟨c, 0, none⟩) hclt).trans HC.out)
      unfold valN at hcl
      obtain ⟨y0, y1, y2, y3, y4, y5⟩ := x
      dsimp only at hc0 hc1 hc2 hc3 hc4 hc5 hcl
      have d0 := (hb.out.cell (p := ⟨b, off + j * 6, none⟩) hblt).trans hc0
      have d1 := (hb.out.cell (p := ⟨b, off + j * 6 + 1, none⟩) hblt).trans hc1
      have d2 := (hb.out.cell (p := ⟨b, off + j * 6 + 2, none⟩) hblt).trans hc2
      have d3 := (hb.out.cell (p := ⟨b, off + j * 6 + 3, none⟩) hblt).trans hc3
      have d4 := (hb.out.cell (p := ⟨b, off + j * 6 + 4, none⟩) hblt).trans hc4
      have d5 := (hb.out.cell (p := ⟨b, off + j * 6 + 5, none⟩) hblt).trans hc5
      have HX := Lib.hid hx
      obtain ⟨q, hq⟩ : ∃ q, q = (y0 == a) := ⟨_, rfl⟩
      rw [← hq] at hcl
      have HCL := Lib.hid hcl
      have HQ := Lib.hid hq
      clear hcell hc0 hc1 hc2 hc3 hc4 hc5 hx hcl hq ho
      go_wp2_with fail
      refine HCL.out.mono ?_
      rintro e w2 ⟨rfl, hb2⟩
      have HB2 := Lib.hid (hb.out.trans (hb2.mono hb.out.size))
      clear hb2
      cases q with
      | true =>
        go_wp2
        go_ret
        refine ⟨?_, HB2.out⟩
        unfold idxN
        have : l.findIdx? (fun x => x.id == a) = some j := by
          rw [List.findIdx?_eq_some_iff_getElem]
          exact ⟨hjl, by rw [HX.out]; exact HQ.out.symm, fun i hi => by rw [hp.out i (by omega) hi]; decide⟩
        rw [this]; rfl
      | false =>
        go_wp2
        go_roundw
        case rel =>
          refine ⟨j + 1, by omega, by go_num, Lib.hid (fun i h hi => ?_), HB2⟩
          by_cases e : i = j
          · subst e; rw [HX.out]; exact HQ.out.symm
          · exact hp.out i h (by omega)
        case measure => simp [intOf]; omega
    · go_wp2
      go_ret
      refine ⟨?_, hb.out⟩
      unfold idxN
      have : l.findIdx? (fun x => x.id == a) = none := by
        rw [List.findIdx?_eq_none_iff]
        intro x hx
        obtain ⟨i, hi, rfl⟩ := List.getElem_of_mem hx
        exact hp.out i hi (by rw [← HN.out] at hlt; omega)
      rw [this]; rfl
theorem nd_info : (Tryd.prog.info? 42).map (·.size) = some 6 := by kernel_rfl
set_option maxRecDepth 100000 in
set_option maxHeartbeats 1600000 in
theorem find_any (A : Option Addr) (cap : Nat) (l : List Nd) (lv nx nw : Int) (a : Int) (w : World) (hl : l.length ≤ 1000000) (hr : NodesAt w A l) :
    Calls Tryd.prog 17 #[.agg #[.slice A l.length cap, .int .i64 lv, .int .i64 nx, .int .u64 nw], .int .i64 a] w fun e w' => e = .returned (.tuple #[valN (findN l a).1, .bool (findN l a).2]) ∧ Below w.heap.size w w' := by
  have hbel : Below w.heap.size w (((w.alloc (.cells #[.slice A l.length cap, .int .i64 lv, .int .i64 nx, .int .u64 nw] 28)).alloc (.cells #[.int .i64 a] 3)).alloc (.cells #[.int .i64 0, .int .i64 0, .string ⟨#[]⟩, .int .u64 0, .bool false, .bool false] 42)) := (((Below.refl _ _).alloc (Nat.le_refl _) _).alloc (by simp) _).alloc (by simp; omega) _
  have hk1 : Blk (((w.alloc (.cells #[.slice A l.length cap, .int .i64 lv, .int .i64 nx, .int .u64 nw] 28)).alloc (.cells #[.int .i64 a] 3)).alloc (.cells #[.int .i64 0, .int .i64 0, .string ⟨#[]⟩, .int .u64 0, .bool false, .bool false] 42)) (w.heap.size + 1) 3 #[.int .i64 a] := by
    have h := (Blk.new (w.alloc (.cells #[.slice A l.length cap, .int .i64 lv, .int .i64 nx, .int .u64 nw] 28)) 3 #[.int .i64 a]).alloc (.cells #[.int .i64 0, .int .i64 0, .string ⟨#[]⟩, .int .u64 0, .bool false, .bool false] 42)
    rw [show (w.alloc (.cells #[.slice A l.length cap, .int .i64 lv, .int .i64 nx, .int .u64 nw] 28)).heap.size = w.heap.size + 1 by simp] at h
    exact h
  have hk0 : Blk (((w.alloc (.cells #[.slice A l.length cap, .int .i64 lv, .int .i64 nx, .int .u64 nw] 28)).alloc (.cells #[.int .i64 a] 3)).alloc (.cells #[.int .i64 0, .int .i64 0, .string ⟨#[]⟩, .int .u64 0, .bool false, .bool false] 42)) w.heap.size 28 #[.slice A l.length cap, .int .i64 lv, .int .i64 nx, .int .u64 nw] := ((Blk.new w 28 #[.slice A l.length cap, .int .i64 lv, .int .i64 nx, .int .u64 nw]).alloc _).alloc _
  have hk2 : Blk (((w.alloc (.cells #[.slice A l.length cap, .int .i64 lv, .int .i64 nx, .int .u64 nw] 28)).alloc (.cells #[.int .i64 a] 3)).alloc (.cells #[.int .i64 0, .int .i64 0, .string ⟨#[]⟩, .int .u64 0, .bool false, .bool false] 42)) (w.heap.size + 1 + 1) 42 #[.int .i64 0, .int .i64 0, .string ⟨#[]⟩, .int .u64 0, .bool false, .bool false] := by
    have h := Blk.new ((w.alloc (.cells #[.slice A l.length cap, .int .i64 lv, .int .i64 nx, .int .u64 nw] 28)).alloc (.cells #[.int .i64 a] 3)) 42 #[.int .i64 0, .int .i64 0, .string ⟨#[]⟩, .int .u64 0, .bool false, .bool false]
    rw [show ((w.alloc (.cells #[.slice A l.length cap, .int .i64 lv, .int .i64 nx, .int .u64 nw] 28)).alloc (.cells #[.int .i64 a] 3)).heap.size = w.heap.size + 1 + 1 by simp] at h
    exact h
  have hcall := indexN_any A cap l a (w.heap.size + 1) _ hl (hr.below hbel) ((hk1.cell 0).trans rfl)
  have HC := Lib.hid hcall
  have HB := Lib.hid hbel
  have HK0 := Lib.hid hk0
  have HK2 := Lib.hid hk2
  have HR := Lib.hid hr
  have HE := Lib.hid (show findN l a = match l.findIdx? (fun x => x.id == a) with | none => (zN, false) | some i => (l.getD i zN, true) from rfl)
  have HI := Lib.hid (show idxN l a = match l.findIdx? (fun x => x.id == a) with | none => -1 | some i => (i : Int) from rfl)
  obtain ⟨n, hnl⟩ : ∃ n, l.length = n := ⟨_, rfl⟩
  have HN := Lib.hid hnl
  rw [hnl] at hl HC HB HK0 HK2 ⊢
  clear hcall hbel hk0 hk1 hk2 hr hnl
  generalize findN l a = fr at HE ⊢
  generalize idxN l a = ix at HI HC
  go_enter Tryd.func17, Tryd.ntmps17
  go_wp2_with fail
  refine HC.out.mono ?_
  rintro e w1 ⟨rfl, hb1⟩
  have h2 := HB.out.trans (hb1.mono HB.out.size)
  have k0 := HK0.out.below hb1 HK0.out.lt
  have k2 := HK2.out.below hb1 HK2.out.lt
  have z0 : w1.cell? ⟨w.heap.size, 0, none⟩ = some (.slice A n cap) := (k0.cell 0).trans rfl
  have c0 : w1.cell? ⟨w.heap.size + 1 + 1, 0, none⟩ = some (.int .i64 0) := (k2.cell 0).trans rfl
  have c1 : w1.cell? ⟨w.heap.size + 1 + 1, 1, none⟩ = some (.int .i64 0) := (k2.cell 1).trans rfl
  have c2 : w1.cell? ⟨w.heap.size + 1 + 1, 2, none⟩ = some (.string ⟨#[]⟩) := (k2.cell 2).trans rfl
  have c3 : w1.cell? ⟨w.heap.size + 1 + 1, 3, none⟩ = some (.int .u64 0) := (k2.cell 3).trans rfl
  have c4 : w1.cell? ⟨w.heap.size + 1 + 1, 4, none⟩ = some (.bool false) := (k2.cell 4).trans rfl
  have c5 : w1.cell? ⟨w.heap.size + 1 + 1, 5, none⟩ = some (.bool false) := (k2.cell 5).trans rfl
  have f0 := k2.frozen 0
  have f1 := k2.frozen 1
  have f2 := k2.frozen 2
  have f3 := k2.frozen 3
  have f4 := k2.frozen 4
  have f5 := k2.frozen 5
  have K2 := Lib.hid k2
  have H2 := Lib.hid h2
  have HR1 := Lib.hid (HR.out.below h2)
  clear hb1 k0 k2 h2 HB HK0 HK2 HC HR
  cases hf : l.findIdx? (fun x => x.id == a) with
  | none =>
    have hix := HI.out
    have hfr := HE.out
    rw [hf] at hix hfr
    dsimp only at hix hfr
    subst hix
    subst hfr
    clear HI HE HR1 hf
    go_wp2_with fail
    have h3 := (((((K2.out.set_ 0 (.int .i64 0)).set_ 1 (.int .i64 0)).set_ 2 (.string ⟨#[]⟩)).set_ 3 (.int .u64 0)).set_ 4 (.bool false)).set_ 5 (.bool false)
    refine bodyPost_ret (results_row_tmp rfl _ _ (w.heap.size + 1 + 1) _ _ _ _ rfl h3 Tryd.underlying42 rfl (by rw [nd_info]; rfl)) rfl ?_
    refine ⟨rfl, ?_⟩
    repeat (refine below_set ?_ (by omega))
    exact H2.out
  | some j =>
    have hix := HI.out
    have hfr := HE.out
    rw [hf] at hix hfr
    dsimp only at hix hfr
    subst hix
    have hj : j < l.length := (List.findIdx?_eq_some_iff_getElem.1 hf).1
    obtain ⟨b, off, rfl, ⟨cs, fz, ho⟩, hcell⟩ := HR1.out (by omega)
    obtain ⟨e0, e1, e2, e3, e4, e5⟩ := nodes_get hcell j hj
    have hfr2 : fr = (l[j], true) := by rw [hfr, List.getD_eq_getElem?_getD, List.getElem?_eq_getElem hj]; rfl
    obtain ⟨x, hx⟩ : ∃ x, l[j] = x := ⟨_, rfl⟩
    rw [hx] at e0 e1 e2 e3 e4 e5 hfr2
    subst hfr2
    obtain ⟨y0, y1, y2, y3, y4, y5⟩ := x
    dsimp only at e0 e1 e2 e3 e4 e5
    have hjn : j < n := by rw [← HN.out]; exact hj
    clear HI HE HR1 hf hfr hcell ho hx hj
    go_wp2_with fail
    have h3 := (((((K2.out.set_ 0 (.int .i64 y0)).set_ 1 (.int .i64 y1)).set_ 2 (.string y2)).set_ 3 (.int .u64 y3)).set_ 4 (.bool y4)).set_ 5 (.bool y5)
    refine bodyPost_ret (results_row_tmp rfl _ _ (w.heap.size + 1 + 1) _ _ _ _ rfl h3 Tryd.underlying42 rfl (by rw [nd_info]; rfl)) rfl ?_
    refine ⟨rfl, ?_⟩
    repeat (refine below_set ?_ (by omega))
    exact H2.out
end Go.Proofs.YtfdhehjfbcddgaaDoor.Pr
